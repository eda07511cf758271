/- Dot: part 2 of 5 of what the law rests on. -/
import Derived.Test.YtidpigbinpaaeaaWkA
set_option linter.unusedSectionVars false
set_option linter.unusedSimpArgs false
set_option linter.unusedVariables false
namespace Go.Proofs.Ytidpigbinpaaeaa
open Go.RowKit Go.W
abbrev Iv := In × Value
def Iv.cells (e : Iv) : List Value := [iv e.1.op, iv e.1.out, iv e.1.alt, iv e.1.arg, e.2]
def oN (es : List Iv) : List Value := es.flatMap Iv.cells
theorem pD (e : Iv) (es : List Iv) : oN (e :: es) = e.cells ++ oN es := rfl
theorem rD (a b : List Iv) : oN (a ++ b) = oN a ++ oN b := by unfold oN; rw [List.flatMap_append]
theorem FN (es : List Iv) : (oN es).length = es.length * 5 := by
  induction es with
  | nil => rfl
  | cons e es ih => rw [pD, List.length_append, ih, List.length_cons]; show 5 + es.length * 5 = _; omega
def Iv.setOut (o : Int) (e : Iv) : Iv := (⟨e.1.op, o, e.1.alt, e.1.arg, e.1.rs⟩, e.2)
def Iv.setAlt (o : Int) (e : Iv) : Iv := (⟨e.1.op, e.1.out, o, e.1.arg, e.1.rs⟩, e.2)
theorem lK {α} (f : α → α) (a : α) (l : List α) (k : Nat) : (a :: l).modify (k + 1) f = a :: l.modify k f := by simp [List.modify]
theorem FL {es : List Iv} {k j : Nat} {v : Value} {f : Iv → Iv} (hf : ∀ e : Iv, (f e).cells = e.cells.set j v) (hk : k < es.length) (hj : j < 5) : (oN es).set (k * 5 + j) v = oN (es.modify k f) := by
  induction es generalizing k with
  | nil => simp at hk
  | cons e es ih =>
    cases k with
    | zero =>
      rw [pD, List.set_append_left _ _ (by show 0 * 5 + j < 5; omega), show (e :: es).modify 0 f = f e :: es from by simp [List.modify], pD, hf, Nat.zero_mul, Nat.zero_add]
    | succ k =>
      rw [pD, List.set_append_right _ _ (by show 5 ≤ _; omega), lK, pD, ← ih (by simpa using hk)]
      congr 2
      show (k + 1) * 5 + j - 5 = _
      omega
theorem oE {es : List Iv} {k : Nat} (hk : k < es.length) (o : Int) : (oN es).set (k * 5 + 1) (iv o) = oN (es.modify k (Iv.setOut o)) := FL (fun _ => rfl) hk (by omega)
theorem vO {es : List Iv} {k : Nat} (hk : k < es.length) (o : Int) : (oN es).set (k * 5 + 2) (iv o) = oN (es.modify k (Iv.setAlt o)) := FL (fun _ => rfl) hk (by omega)
def Has (l : List In) (a : Nat) (k : List In) : Prop := ∀ i (h : i < k.length), l[a + i]? = some k[i]
theorem Has.left {l : List In} {a : Nat} {k k' : List In} (h : Has l a (k ++ k')) : Has l a k := fun i hi => by
  rw [h i (by rw [List.length_append]; omega), List.getElem_append_left hi]
theorem Has.right {l : List In} {a : Nat} {k k' : List In} (h : Has l a (k ++ k')) : Has l (a + k.length) k' := fun i hi => by
  rw [Nat.add_assoc, h (k.length + i) (by rw [List.length_append]; omega), List.getElem_append_right (by omega)]
  simp
theorem Has.one {l : List In} {a : Nat} {c : In} (h : Has l a [c]) : l[a]? = some c := h 0 (by simp)
def gH (x : Rx) (a : Nat) (k : List In) : Prop := ∀ l, Has l a k → Blk l x a (a + k.length)
theorem rH {l : List In} {x : Rx} {a b : Nat} : gQ l [x] a b ↔ Blk l x a b := by
  rw [gQ]
  constructor
  · rintro ⟨m, h1, h2⟩; rw [gQ] at h2; subst h2; exact h1
  · exact fun h => ⟨b, h, by rw [gQ]⟩
def Pat (l : List In) (a : Nat) (k : List In) (js : List Nat) (f : Nat → In → In) : Prop := ∀ i (h : i < k.length), l[a + i]? = some (if a + i ∈ js then f (a + i) k[i] else k[i])
theorem Pat.left {l : List In} {a : Nat} {k k' : List In} {js js' : List Nat} {f : Nat → In → In} (h : Pat l a (k ++ k') (js ++ js') f) (hj : ∀ p, p ∈ js' → a + k.length ≤ p) : Pat l a k js f := fun i hi => by
  rw [h i (by rw [List.length_append]; omega), List.getElem_append_left hi]
  have : a + i ∉ js' := fun hm => by have := hj _ hm; omega
  simp [List.mem_append, this]
theorem Pat.right {l : List In} {a : Nat} {k k' : List In} {js js' : List Nat} {f : Nat → In → In} (h : Pat l a (k ++ k') (js ++ js') f) (hj : ∀ p, p ∈ js → p < a + k.length) : Pat l (a + k.length) k' js' f := fun i hi => by
  rw [Nat.add_assoc, h (k.length + i) (by rw [List.length_append]; omega), List.getElem_append_right (by omega)]
  have : a + (k.length + i) ∉ js := fun hm => by have := hj _ hm; omega
  simp [List.mem_append, this]
theorem Pat.has {l : List In} {a : Nat} {k : List In} {f : Nat → In → In} (h : Pat l a k [] f) : Has l a k := fun i hi => by rw [h i hi]; simp
def outTo (e : Nat) : Nat → In → In := fun _ c => ⟨c.op, e, c.alt, c.arg, c.rs⟩
structure AltPre (ks : List Rx) (a : Nat) (k : List In) (js : List Nat) : Prop where
  at' : ∀ p, p ∈ js → a ≤ p ∧ p < a + k.length
  blk : ∀ l e, Pat l a k js (outTo e) → ∀ rest, rest ≠ [] → qP l rest (a + k.length) e → qP l (ks ++ rest) a e
theorem AltPre.nil (a : Nat) : AltPre [] a [] [] := ⟨fun p h => (by cases h), fun l e _ rest _ h => h⟩
theorem AltPre.snoc {ks : List Rx} {a : Nat} {k kx : List In} {js : List Nat} {x : Rx} {o : Int} {m' : Nat} (h : AltPre ks a k js) (hx : gH x (a + k.length + 1) kx) (hm : m' = a + k.length + 1 + kx.length) :
    AltPre (ks ++ [x]) a (k ++ ([In.sp false (a + k.length + 1) (m' + 1)] ++ (kx ++ [⟨10, o, 0, 0, []⟩]))) (js ++ [m']) := by
  subst hm
  refine ⟨fun p hp => ?_, fun l e hp rest hr hb => ?_⟩
  · simp only [List.length_append, List.length_cons, List.length_nil]
    rcases List.mem_append.1 hp with hp | hp
    · have := h.at' p hp; omega
    · rw [List.mem_singleton] at hp; omega
  · have hl : (k ++ ([In.sp false (a + k.length + 1) (a + k.length + 1 + kx.length + 1)] ++ (kx ++ [(⟨10, o, 0, 0, []⟩ : In)]))).length = k.length + 1 + kx.length + 1 := by simp only [List.length_append, List.length_cons, List.length_nil]; omega
    rw [hl] at hb
    have p1 := hp.left (fun p hp => by rw [List.mem_singleton] at hp; omega)
    have p2 := hp.right (fun p hp => (h.at' p hp).2)
    have q1 := (Pat.left (js := []) (js' := [a + k.length + 1 + kx.length]) p2 (fun p hp => by rw [List.mem_singleton] at hp; simp only [List.length_cons, List.length_nil]; omega)).has.one
    have q2 := Pat.right (js := []) (js' := [a + k.length + 1 + kx.length]) p2 (fun p hp => by cases hp)
    simp only [List.length_cons, List.length_nil, Nat.zero_add] at q2
    have q3 := (Pat.left (js := []) (js' := [a + k.length + 1 + kx.length]) q2 (fun p hp => by rw [List.mem_singleton] at hp; omega)).has
    have q4 := Pat.right (js := []) (js' := [a + k.length + 1 + kx.length]) q2 (fun p hp => by cases hp)
    have q5 := q4 0 (by simp)
    rw [if_pos (by simp)] at q5
    rw [List.append_assoc]
    refine h.blk l e p1 _ (by simp) ?_
    show qP l (x :: rest) _ _
    rw [qP]
    refine ⟨fun h => (hr h).elim, fun _ => ⟨_, q1, hx l q3, q5, ?_⟩⟩
    have : a + (k.length + 1 + kx.length + 1) = a + k.length + 1 + kx.length + 1 := by omega
    rw [this] at hb
    exact hb
theorem AltPre.done {ks : List Rx} {a : Nat} {k kx : List In} {js : List Nat} {x : Rx} (h : AltPre ks a k js) (hx : gH x (a + k.length) kx) {l : List In} (hp : Pat l a (k ++ kx) js (outTo (a + k.length + kx.length))) : qP l (ks ++ [x]) a (a + k.length + kx.length) := by
  have hp' : Pat l a (k ++ kx) (js ++ []) (outTo (a + k.length + kx.length)) := by rw [List.append_nil]; exact hp
  refine h.blk l _ (hp'.left (fun p hp => by cases hp)) [x] (by simp) ?_
  rw [qP]
  exact ⟨fun _ => hx l (hp'.right (fun p hp => (h.at' p hp).2)).has, fun h => (h rfl).elim⟩
def turnTo (z : Bool) (e : Nat) : Nat → In → In := fun p c => ⟨c.op, if z then (e : Int) else (p : Int) + 1, if z then (p : Int) + 1 else (e : Int), c.arg, c.rs⟩
theorem ED {B : Nat → Nat → Prop} : ∀ {j a m m'}, Rep B j a m → B m m' → Rep B (j + 1) a m'
  | 0, a, m, m', h, hb => by cases h; exact ⟨m', hb, rfl⟩
  | j + 1, a, m, m', ⟨k, h1, h2⟩, hb => ⟨k, h1, ED h2 hb⟩
def RepC (ks : List Rx) (j a : Nat) (k : List In) : Prop := ∀ l, Has l a k → Rep (gQ l ks) j a (a + k.length)
theorem RepC.nil (ks : List Rx) (a : Nat) : RepC ks 0 a [] := fun l _ => rfl
theorem RepC.snoc {x : Rx} {j a : Nat} {k kx : List In} (h : RepC [x] j a k) (hx : gH x (a + k.length) kx) : RepC [x] (j + 1) a (k ++ kx) := fun l hl => by
  rw [List.length_append, ← Nat.add_assoc]
  exact ED (h l hl.left) (rH.2 (hx l hl.right))
theorem RepC.stop {x : Rx} {j a : Nat} {k : List In} (h : RepC [x] j a k) (hx : gH x (a + k.length) []) (i : Nat) : RepC [x] (j + i) a k := by
  induction i with
  | zero => exact h
  | succ i ih => have := ih.snoc hx; rw [List.append_nil] at this; exact this
structure OptPre (z : Bool) (x : Rx) (j a : Nat) (k : List In) (js : List Nat) : Prop where
  at' : ∀ p, p ∈ js → a ≤ p ∧ p < a + k.length
  blk : ∀ l e, Pat l a k js (turnTo z e) → ∀ r, Opt l z (gQ l [x]) e r (a + k.length) → Opt l z (gQ l [x]) e (j + r) a
theorem OptPre.nil (z : Bool) (x : Rx) (a : Nat) : OptPre z x 0 a [] [] := ⟨fun p h => (by cases h), fun l e _ r h => by rw [Nat.zero_add]; exact h⟩
theorem turn_sp (z : Bool) (p e : Nat) (o al : Int) : turnTo z e p ⟨3, o, al, 0, []⟩ = In.sp z (p + 1) e := by unfold turnTo In.sp; cases z <;> rfl
theorem OptPre.snoc {z : Bool} {x : Rx} {j a : Nat} {k kx : List In} {js : List Nat} {o al : Int} {m : Nat} (h : OptPre z x j a k js) (hm : m = a + k.length) (hx : gH x (m + 1) kx) :
    OptPre z x (j + 1) a (k ++ ([⟨3, o, al, 0, []⟩] ++ kx)) (js ++ [m]) := by
  subst hm
  refine ⟨fun p hp => ?_, fun l e hp r hb => ?_⟩
  · simp only [List.length_append, List.length_cons, List.length_nil]
    rcases List.mem_append.1 hp with hp | hp
    · have := h.at' p hp; omega
    · rw [List.mem_singleton] at hp; omega
  · have hl : (k ++ ([(⟨3, o, al, 0, []⟩ : In)] ++ kx)).length = k.length + 1 + kx.length := by simp only [List.length_append, List.length_cons, List.length_nil]; omega
    rw [hl] at hb
    have p1 := hp.left (fun p hp => by rw [List.mem_singleton] at hp; omega)
    have p2 := hp.right (fun p hp => (h.at' p hp).2)
    have q1 := p2 0 (by simp)
    rw [if_pos (by simp)] at q1
    have q2 := Pat.right (js := [a + k.length]) (js' := []) (k := [(⟨3, o, al, 0, []⟩ : In)]) (k' := kx) (by simpa using p2) (fun p hp => by rw [List.mem_singleton] at hp; simp only [List.length_cons, List.length_nil]; omega)
    rw [show j + 1 + r = j + (r + 1) from by omega]
    refine h.blk l e p1 _ ⟨_, q1.trans (congrArg some (turn_sp z _ e o al)), rH.2 (hx l q2.has), ?_⟩
    rw [show a + k.length + 1 + kx.length = a + (k.length + 1 + kx.length) from by omega]
    exact hb
def nE (f : Nat → Iv → Iv) (js : List Nat) (es : List Iv) : List Iv := js.foldl (fun l p => l.modify p (f p)) es
theorem pQ (f : Nat → Iv → Iv) (js : List Nat) (es : List Iv) : (nE f js es).length = es.length := by
  induction js generalizing es with
  | nil => rfl
  | cons p js ih => show (nE f js _).length = _; rw [ih, List.length_modify]
theorem AI {f : Nat → Iv → Iv} (hf : ∀ p e, f p (f p e) = f p e) (js : List Nat) (es : List Iv) (q : Nat) : (nE f js es)[q]? = (es[q]?).map (fun e => if q ∈ js then f q e else e) := by
  induction js generalizing es with
  | nil => simp [nE]
  | cons p js ih =>
    show (nE f js (es.modify p (f p)))[q]? = _
    rw [ih, List.getElem?_modify]
    by_cases e : p = q
    · subst e
      cases h : es[p]? with
      | none => simp
      | some v => simp only [Option.map_some, if_true, List.mem_cons, true_or]; split <;> simp [hf]
    · cases h : es[q]? with
      | none => simp [e]
      | some v => simp [e, show ¬ q = p from fun h => e h.symm]
theorem xE (f : Nat → Iv → Iv) (js : List Nat) (p : Nat) (es : List Iv) : nE f (js ++ [p]) es = (nE f js es).modify p (f p) := by unfold nE; rw [List.foldl_append]; rfl
def Iv.outTo (e : Nat) : Nat → Iv → Iv := fun p x => (Go.Proofs.Ytidpigbinpaaeaa.outTo e p x.1, x.2)
def Iv.turnTo (z : Bool) (e : Nat) : Nat → Iv → Iv := fun p x => (Go.Proofs.Ytidpigbinpaaeaa.turnTo z e p x.1, x.2)
theorem xD {f : Nat → Iv → Iv} (hf : ∀ p e, f p (f p e) = f p e) {js : List Nat} {es new : List Iv} (hj : ∀ p, p ∈ js → es.length ≤ p) : ∃ new', nE f js (es ++ new) = es ++ new' ∧ new'.length = new.length ∧
    ∀ i (h : i < new.length), new'[i]? = some (if es.length + i ∈ js then f (es.length + i) new[i] else new[i]) := by
  refine ⟨(nE f js (es ++ new)).drop es.length, ?_, by simp [pQ], fun i hi => ?_⟩
  · apply List.ext_getElem?
    intro q
    by_cases hq : q < es.length
    · rw [AI hf, List.getElem?_append_left hq, List.getElem?_append_left hq, if_neg_mem hj hq]
    · rw [List.getElem?_append_right (by omega), List.getElem?_drop, show es.length + (q - es.length) = q from by omega]
  · rw [List.getElem?_drop, AI hf, List.getElem?_append_right (by omega), show es.length + i - es.length = i from by omega, List.getElem?_eq_getElem hi]
    rfl
where
  if_neg_mem {f : Nat → Iv → Iv} {js : List Nat} {n q : Nat} {o : Option Iv} (hj : ∀ p, p ∈ js → n ≤ p) (hq : q < n) : o.map (fun e => if q ∈ js then f q e else e) = o := by
    rw [show (fun e => if q ∈ js then f q e else e) = id from funext fun e => if_neg (fun h => by have := hj q h; omega)]; simp
theorem RX {g : Nat → In → In} {f : Nat → Iv → Iv} (hg : ∀ p e, (f p e).1 = g p e.1) {a : Nat} {new new' : List Iv} {js : List Nat} (h1 : new'.length = new.length) (h2 : ∀ i (h : i < new.length), new'[i]? = some (if a + i ∈ js then f (a + i) new[i] else new[i])) {l : List In} (hl : Has l a (new'.map (·.1))) : Pat l a (new.map (·.1)) js g := fun i hi => by
  have hi' : i < new.length := by simpa using hi
  have hi2 : i < new'.length := by omega
  rw [hl i (by simpa using hi2)]
  have := h2 i hi'
  rw [List.getElem?_eq_getElem hi2, Option.some.injEq] at this
  simp only [List.getElem_map, this]
  split
  · rw [hg]
  · rfl
end Go.Proofs.Ytidpigbinpaaeaa
namespace Go.Proofs.Ytidpigbinpaaeaa
open Go.Lib Go.W
def IsR (n : Int) : Prop := 0 ≤ n ∧ n ≤ 1114111 ∧ (n < 55296 ∨ 57343 < n)
instance (n : Int) : Decidable (IsR n) := by unfold IsR; infer_instance
def nN (m : Nat) : List Nat :=
  if m < 128 then [m] else if m < 2048 then [192 + m / 64, 128 + m % 64] else if m < 65536 then [224 + m / 4096, 128 + m / 64 % 64, 128 + m % 64]
  else [240 + m / 262144, 128 + m / 4096 % 64, 128 + m / 64 % 64, 128 + m % 64]
def eY (n : Int) : List Nat := if IsR n then nN n.toNat else []
theorem FD (n : Int) : ∀ b, b ∈ eY n → b < 256 := by
  unfold eY
  split
  · rename_i h
    unfold IsR at h
    unfold nN
    repeat' split
    all_goals (intro b hb; simp at hb; omega)
  · intro b hb; cases hb
theorem OW (n : Int) : (eY n).length ≤ 4 := by
  unfold eY nN
  repeat' split
  all_goals simp
def dL (s : ByteArray) (a w : Nat) : Int :=
  if w = 1 then (sb s a : Int) else if w = 2 then ((sb s a : Int) - 192) * 64 + sb s (a + 1) - 128
  else if w = 3 then (((sb s a : Int) - 224) * 64 + sb s (a + 1) - 128) * 64 + sb s (a + 2) - 128
  else ((((sb s a : Int) - 240) * 64 + sb s (a + 1) - 128) * 64 + sb s (a + 2) - 128) * 64 + sb s (a + 3) - 128
def gL (s : ByteArray) (a w : Nat) : List Nat := (List.range w).map fun k => sb s (a + k)
theorem yI (s : ByteArray) (a w : Nat) : ∀ b, b ∈ gL s a w → b < 256 := by
  intro b hb
  simp only [gL, List.mem_map] at hb
  obtain ⟨k, _, rfl⟩ := hb
  exact iY _ _
theorem sU (s : ByteArray) (a w : Nat) (h : a + w ≤ s.size) : s.extract a (a + w) = oP (gL s a w) := by
  apply ByteArray.ext
  apply Array.ext
  · have e1 : (s.extract a (a + w)).data.size = w := by have := s.size_extract (b := a) (e := a + w); rw [ByteArray.size] at this; omega
    rw [e1]; simp [oP, gL]
  · intro i h1 h2
    simp only [oP, gL, List.map_map, List.getElem_toArray, List.getElem_map, List.getElem_range, Function.comp_def, ByteArray.data_extract, Array.getElem_extract]
    have h3 : a + i < s.size := by simp [oP, gL] at h2; omega
    apply UInt8.toNat_inj.1
    have := iY s (a + i)
    rw [UInt8.toNat_ofNat_of_lt' (by simpa using this), qV s _ h3]
    rfl
def Hit (s : ByteArray) (a w : Nat) : Prop := eY (dL s a w) = gL s a w
theorem CQ {s : ByteArray} {a w : Nat} (h : Hit s a w) : (eY (dL s a w)).length = w := by rw [h]; simp [gL]
theorem TV {s : ByteArray} {a w : Nat} (h : a + w ≤ s.size) : Hit s a w ↔ s.extract a (a + w) = oP (eY (dL s a w)) := by
  rw [sU s a w h, GL (yI s a w) (FD _)]
  exact ⟨fun h => h.symm, fun h => h.symm⟩
section
variable {b0 b1 b2 b3 : Nat}
theorem form1 (h0 : b0 < 256) : eY (b0 : Int) = [b0] ↔ b0 < 128 := by
  unfold eY nN
  constructor
  · intro h
    repeat' split at h
    all_goals simp at h
    all_goals omega
  · intro h
    rw [if_pos (by unfold IsR; omega), if_pos (by omega)]; simp
theorem form2 (h0 : b0 < 256) (h1 : b1 < 256) : eY (((b0 : Int) - 192) * 64 + b1 - 128) = [b0, b1] ↔ (b0 / 32 = 6 ∧ b1 / 64 = 2 ∧ 128 ≤ b0 % 32 * 64 + b1 % 64) := by
  unfold eY nN
  constructor
  · intro h
    repeat' split at h
    all_goals simp at h
    all_goals unfold IsR at *
    all_goals omega
  · intro h
    rw [if_pos (by unfold IsR; omega), if_neg (by omega), if_pos (by omega)]; simp; omega
theorem form3 (h0 : b0 < 256) (h1 : b1 < 256) (h2 : b2 < 256) : eY ((((b0 : Int) - 224) * 64 + b1 - 128) * 64 + b2 - 128) = [b0, b1, b2] ↔
    (b0 / 16 = 14 ∧ b1 / 64 = 2 ∧ b2 / 64 = 2 ∧ 2048 ≤ b0 % 16 * 4096 + b1 % 64 * 64 + b2 % 64 ∧ (b0 % 16 * 4096 + b1 % 64 * 64 + b2 % 64 < 55296 ∨ 57343 < b0 % 16 * 4096 + b1 % 64 * 64 + b2 % 64)) := by
  unfold eY nN
  constructor
  · intro h
    repeat' split at h
    all_goals simp at h
    all_goals unfold IsR at *
    all_goals omega
  · intro h
    rw [if_pos (by unfold IsR; omega), if_neg (by omega), if_neg (by omega), if_pos (by omega)]; simp; omega
theorem form4 (h0 : b0 < 256) (h1 : b1 < 256) (h2 : b2 < 256) (h3 : b3 < 256) : eY (((((b0 : Int) - 240) * 64 + b1 - 128) * 64 + b2 - 128) * 64 + b3 - 128) = [b0, b1, b2, b3] ↔
    (b0 / 8 = 30 ∧ b1 / 64 = 2 ∧ b2 / 64 = 2 ∧ b3 / 64 = 2 ∧ 65536 ≤ b0 % 8 * 262144 + b1 % 64 * 4096 + b2 % 64 * 64 + b3 % 64 ∧ b0 % 8 * 262144 + b1 % 64 * 4096 + b2 % 64 * 64 + b3 % 64 ≤ 1114111) := by
  unfold eY nN
  constructor
  · intro h
    repeat' split at h
    all_goals simp at h
    all_goals unfold IsR at *
    all_goals omega
  · intro h
    rw [if_pos (by unfold IsR; omega), if_neg (by omega), if_neg (by omega), if_neg (by omega)]; simp; omega
end
theorem hit1 (s : ByteArray) (a : Nat) : Hit s a 1 ↔ sb s a < 128 := by
  have := form1 (iY s a)
  simpa [Hit, dL, gL] using this
theorem hit2 (s : ByteArray) (a : Nat) : Hit s a 2 ↔ (sb s a / 32 = 6 ∧ sb s (a + 1) / 64 = 2 ∧ 128 ≤ sb s a % 32 * 64 + sb s (a + 1) % 64) := by
  have := form2 (iY s a) (iY s (a + 1))
  simpa [Hit, dL, gL, List.range_succ] using this
theorem hit3 (s : ByteArray) (a : Nat) : Hit s a 3 ↔ (sb s a / 16 = 14 ∧ sb s (a + 1) / 64 = 2 ∧ sb s (a + 2) / 64 = 2 ∧ 2048 ≤ sb s a % 16 * 4096 + sb s (a + 1) % 64 * 64 + sb s (a + 2) % 64 ∧ (sb s a % 16 * 4096 + sb s (a + 1) % 64 * 64 + sb s (a + 2) % 64 < 55296 ∨ 57343 < sb s a % 16 * 4096 + sb s (a + 1) % 64 * 64 + sb s (a + 2) % 64)) := by
  have := form3 (iY s a) (iY s (a + 1)) (iY s (a + 2))
  simpa [Hit, dL, gL, List.range_succ] using this
theorem hit4 (s : ByteArray) (a : Nat) : Hit s a 4 ↔ (sb s a / 8 = 30 ∧ sb s (a + 1) / 64 = 2 ∧ sb s (a + 2) / 64 = 2 ∧ sb s (a + 3) / 64 = 2 ∧ 65536 ≤ sb s a % 8 * 262144 + sb s (a + 1) % 64 * 4096 + sb s (a + 2) % 64 * 64 + sb s (a + 3) % 64 ∧ sb s a % 8 * 262144 + sb s (a + 1) % 64 * 4096 + sb s (a + 2) % 64 * 64 + sb s (a + 3) % 64 ≤ 1114111) := by
  have := form4 (iY s a) (iY s (a + 1)) (iY s (a + 2)) (iY s (a + 3))
  simpa [Hit, dL, gL, List.range_succ] using this
theorem uY (s : ByteArray) (i : Nat) : Utf8.decode s i = decodeN (s.size - i) (sb s i) (sb s (i + 1)) (sb s (i + 2)) (sb s (i + 3)) := decode_at s i
theorem fF (s : ByteArray) (a : Nat) (ha : a < s.size) :
    (∃ w, 1 ≤ w ∧ w ≤ 4 ∧ a + w ≤ s.size ∧ Hit s a w ∧ Utf8.decode s a = ((dL s a w).toNat, w) ∧ 0 ≤ dL s a w ∧ (dL s a w ≤ 1114111) ∧ ∀ w', Hit s a w' → 1 ≤ w' → w' ≤ 4 → w' = w) ∨
    ((∀ w, 1 ≤ w → w ≤ 4 → a + w ≤ s.size → ¬ Hit s a w) ∧ Utf8.decode s a = (65533, 1)) := by
  have h0 := iY s a
  have h1 := iY s (a + 1)
  have h2 := iY s (a + 2)
  have h3 := iY s (a + 3)
  have k1 := hit1 s a
  have k2 := hit2 s a
  have k3 := hit3 s a
  have k4 := hit4 s a
  have all : ∀ {p : Nat → Prop}, p 1 → p 2 → p 3 → p 4 → ∀ w, 1 ≤ w → w ≤ 4 → p w := by
    intro p p1 p2 p3 p4 w hw hw'
    have : w = 1 ∨ w = 2 ∨ w = 3 ∨ w = 4 := by omega
    rcases this with rfl | rfl | rfl | rfl <;> assumption
  rw [uY]
  unfold decodeN
  split
  · rename_i c
    exact .inl ⟨1, by omega, by omega, by omega, k1.2 c, by simp [dL], by simp [dL], by simp [dL]; omega, fun w' hw h1 h4 => by revert hw; revert w'; exact fun w' h1 h4 => all (p := fun w' => Hit s a w' → w' = 1) (fun _ => rfl) (fun h => by have := k2.1 h; omega) (fun h => by have := k3.1 h; omega) (fun h => by have := k4.1 h; omega) w' h1 h4⟩
  · rename_i c1
    split
    · rename_i c2
      split
      · rename_i c3
        exact .inl ⟨2, by omega, by omega, by omega, k2.2 ⟨c2.1, c2.2.2, c3⟩, by simp [dL]; omega, by simp [dL]; omega, by simp [dL]; omega, fun w' hw h1 h4 => by revert hw; revert w'; exact fun w' h1 h4 => all (p := fun w' => Hit s a w' → w' = 2) (fun h => by have := k1.1 h; omega) (fun h => rfl) (fun h => by have := k3.1 h; omega) (fun h => by have := k4.1 h; omega) w' h1 h4⟩
      · rename_i c3
        exact .inr ⟨all (p := fun w => a + w ≤ s.size → ¬ Hit s a w) (fun _ h => by have := k1.1 h; omega) (fun _ h => by have := k2.1 h; omega) (fun _ h => by have := k3.1 h; omega) (fun _ h => by have := k4.1 h; omega), rfl⟩
    · rename_i c2
      split
      · rename_i c4
        split
        · rename_i c3
          exact .inl ⟨3, by omega, by omega, by omega, k3.2 (by omega), by simp [dL]; omega, by simp [dL]; omega, by simp [dL]; omega, fun w' hw h1 h4 => by revert hw; revert w'; exact fun w' h1 h4 => all (p := fun w' => Hit s a w' → w' = 3) (fun h => by have := k1.1 h; omega) (fun h => by have := k2.1 h; omega) (fun h => rfl) (fun h => by have := k4.1 h; omega) w' h1 h4⟩
        · rename_i c3
          exact .inr ⟨all (p := fun w => a + w ≤ s.size → ¬ Hit s a w) (fun _ h => by have := k1.1 h; omega) (fun _ h => by have := k2.1 h; omega) (fun _ h => by have := k3.1 h; omega) (fun _ h => by have := k4.1 h; omega), rfl⟩
      · rename_i c4
        split
        · rename_i c5
          split
          · rename_i c3
            exact .inl ⟨4, by omega, by omega, by omega, k4.2 (by omega), by simp [dL]; omega, by simp [dL]; omega, by simp [dL]; omega, fun w' hw h1 h4 => by revert hw; revert w'; exact fun w' h1 h4 => all (p := fun w' => Hit s a w' → w' = 4) (fun h => by have := k1.1 h; omega) (fun h => by have := k2.1 h; omega) (fun h => by have := k3.1 h; omega) (fun h => rfl) w' h1 h4⟩
          · rename_i c3
            exact .inr ⟨all (p := fun w => a + w ≤ s.size → ¬ Hit s a w) (fun _ h => by have := k1.1 h; omega) (fun _ h => by have := k2.1 h; omega) (fun _ h => by have := k3.1 h; omega) (fun _ h => by have := k4.1 h; omega), rfl⟩
        · rename_i c5
          exact .inr ⟨all (p := fun w => a + w ≤ s.size → ¬ Hit s a w) (fun _ h => by have := k1.1 h; omega) (fun _ h => by have := k2.1 h; omega) (fun _ h => by have := k3.1 h; omega) (fun _ h => by have := k4.1 h; omega), rfl⟩
theorem oY {s : ByteArray} {a w : Nat} (hw : 1 ≤ w) (hw4 : w ≤ 4) (hs : a + w ≤ s.size) (h : Hit s a w) : bH s a = (dL s a w, w) ∧ 0 ≤ dL s a w ∧ dL s a w ≤ 1114111 := by
  rcases fF s a (by omega) with ⟨w', h1, h2, h3, h4, h5, h6, h7, h8⟩ | ⟨h1, _⟩
  · have : w = w' := h8 w h hw hw4
    subst this
    have hne : ¬ (((dL s a w).toNat, w).1 = 65533 ∧ ((dL s a w).toNat, w).2 = 1) := fun ⟨e1, e2⟩ => by
      simp only at e1 e2
      subst e2
      have := (hit1 s a).1 h
      simp [dL] at e1
      omega
    refine ⟨?_, h6, h7⟩
    unfold bH
    rw [h5, if_pos ⟨by omega, hne⟩]
    simp only [Int.toNat_of_nonneg h6]
  · exact absurd h (h1 w hw hw4 hs)
theorem sB {s : ByteArray} {a : Nat} (h : ∀ w, 1 ≤ w → w ≤ 4 → a + w ≤ s.size → ¬ Hit s a w) : bH s a = (-1, 0) := by
  unfold bH
  by_cases ha : a < s.size
  · rcases fF s a ha with ⟨w', h1, h2, h3, h4, _⟩ | ⟨_, h2⟩
    · exact absurd h4 (h w' h1 h2 h3)
    · rw [h2]; simp
  · rw [if_neg (by omega)]
theorem oX {s : ByteArray} {a : Nat} (h : s.size ≤ a) : bH s a = (-1, 0) := sB fun w h1 h2 h3 => by omega
theorem lI (s : ByteArray) (a : Nat) : bH s a = (-1, 0) ∨ (0 ≤ (bH s a).1 ∧ (bH s a).1 ≤ 1114111 ∧ 1 ≤ (bH s a).2 ∧ (bH s a).2 ≤ 4 ∧ a + (bH s a).2 ≤ s.size) := by
  by_cases ha : a < s.size
  · rcases fF s a ha with ⟨w', h1, h2, h3, h4, h5, h6, h7, _⟩ | ⟨h1, h2⟩
    · right
      rw [(oY h1 h2 h3 h4).1]
      exact ⟨h6, h7, h1, h2, h3⟩
    · exact .inl (sB h1)
  · exact .inl (oX (by omega))
theorem dM {s : ByteArray} {a b k : Nat} (hb : b ≤ s.size) (hk : a + k < b) : sb (s.extract a b) k = sb s (a + k) := by
  rw [qV _ _ (by simp; omega), qV _ _ (by omega)]
  simp only [ByteArray.getElem_extract]
theorem GB {n m b0 b1 b2 b3 c1 c2 c3 : Nat} (h : m = min n 4) (h1 : 1 < n → c1 = b1) (h2 : 2 < n → c2 = b2) (h3 : 3 < n → c3 = b3) : decodeN m b0 c1 c2 c3 = decodeN n b0 b1 b2 b3 := by
  have e1 : (1 < m) = (1 < n) := propext (by omega)
  have e2 : (2 < m) = (2 < n) := propext (by omega)
  have e3 : (3 < m) = (3 < n) := propext (by omega)
  unfold decodeN
  simp only [e1, e2, e3]
  by_cases k1 : 1 < n <;> by_cases k2 : 2 < n <;> by_cases k3 : 3 < n <;> simp only [k1, k2, k3, h1, h2, h3, true_and, and_true, false_and, and_false, if_false, ↓reduceIte]
theorem JE (s : ByteArray) (a : Nat) (ha : a < s.size) : Utf8.decode (s.extract a (min s.size (a + 4))) 0 = Utf8.decode s a := by
  rw [uY, uY]
  simp only [Nat.zero_add]
  have hsz : (s.extract a (min s.size (a + 4))).size = min (s.size - a) 4 := by simp; omega
  have hb : min s.size (a + 4) ≤ s.size := by omega
  have h0 : sb (s.extract a (min s.size (a + 4))) 0 = sb s a := by rw [dM hb (by omega)]; rfl
  rw [h0]
  refine GB (by omega) (fun h => ?_) (fun h => ?_) (fun h => ?_) <;> rw [dM hb (by omega)]
theorem GA (s : ByteArray) (a : Nat) (h : (Utf8.decode s a).1 = 65533) (ha : a < s.size) : (Utf8.decode s a).2 = 1 ∨ (Utf8.decode s a).2 = 3 := by
  rcases fF s a ha with ⟨w, h1, h2, h3, h4, h5, h6, h7, _⟩ | ⟨_, h2⟩
  · rw [h5] at h ⊢
    simp only at h ⊢
    have hh := h4
    unfold Hit at hh
    have e : dL s a w = 65533 := by omega
    rw [e] at hh
    have := congrArg List.length hh
    simp [gL, eY, IsR, nN] at this
    omega
  · rw [h2]; exact .inl rfl
theorem rG (s : ByteArray) (a : Nat) (h : (Utf8.decode s a).1 = 65533) (ha : a < s.size) : (Utf8.decode s a).2 = 3 ↔ (a + 3 ≤ s.size ∧ s.extract a (a + 3) = oP [239, 191, 189]) := by
  constructor
  · intro h3
    rcases fF s a ha with ⟨w, h1, h2, hs, h4, h5, h6, h7, _⟩ | ⟨_, h2⟩
    · rw [h5] at h h3
      simp only at h h3
      subst h3
      refine ⟨hs, ?_⟩
      rw [(TV hs).1 h4]
      have e : dL s a 3 = 65533 := by omega
      rw [e]; rfl
    · rw [h2] at h3; cases h3
  · rintro ⟨hs, he⟩
    have hg : gL s a 3 = [239, 191, 189] := by
      rw [sU s a 3 hs] at he
      exact (GL (yI s a 3) (by intro b hb; simp at hb; omega)).1 he
    simp [gL, List.range_succ] at hg
    have k3 := (hit3 s a).2 (by omega)
    have := (oY (by omega) (by omega) hs k3)
    rcases fF s a ha with ⟨w, h1, h2, hs, h4, h5, h6, h7, h8⟩ | ⟨hn, h2⟩
    · rw [h5]; exact (h8 3 k3 (by omega) (by omega)).symm
    · exact absurd k3 (hn 3 (by omega) (by omega) hs)
theorem DD (s : ByteArray) (a : Nat) (ha : a < s.size) (h : ¬ ((Utf8.decode s a).1 = 65533 ∧ (Utf8.decode s a).2 = 1)) :
    (Utf8.decode s a).2 = if (Utf8.decode s a).1 < 128 then 1 else if (Utf8.decode s a).1 < 2048 then 2 else if (Utf8.decode s a).1 < 65536 then 3 else 4 := by
  rcases fF s a ha with ⟨w, h1, h2, h3, h4, h5, h6, h7, _⟩ | ⟨_, h2⟩
  · rw [h5]
    have hl := CQ h4
    unfold eY nN at hl
    simp only
    repeat' split at hl
    all_goals simp at hl
    all_goals subst hl
    all_goals (repeat' split)
    all_goals omega
  · rw [h2] at h; exact absurd ⟨rfl, rfl⟩ h
end Go.Proofs.Ytidpigbinpaaeaa
namespace Go.Proofs.Ytidpigbinpaaeaa
open Go.RowKit Go.W
def cD (s : ByteArray) : Nat → Nat
  | 0 => 0
  | k + 1 => cD s k + (bH s (cD s k)).2
def tW (s : ByteArray) (k : Nat) : Int := (bH s (cD s k)).1
def Utf (s : ByteArray) (N : Nat) : Prop := cD s N = s.size ∧ ∀ k, k < N → 0 < (bH s (cD s k)).2
def dO (s : ByteArray) (N : Nat) : List Int := (List.range N).map (tW s)
theorem iL (s : ByteArray) (N : Nat) : (dO s N).length = N := by simp [dO]
theorem jE {s : ByteArray} {N k : Nat} (h : k < N) : (dO s N)[k]? = some (tW s k) := by simp [dO, h]
theorem tY (s : ByteArray) (k : Nat) : cD s k ≤ s.size := by
  induction k with
  | zero => exact Nat.zero_le _
  | succ k ih =>
    rw [cD]
    rcases lI s (cD s k) with h | h
    · rw [h]; exact ih
    · exact h.2.2.2.2
theorem uR (s : ByteArray) {a b : Nat} (h : a ≤ b) : cD s a ≤ cD s b := by
  induction h with
  | refl => exact Nat.le_refl _
  | step _ ih => rw [cD]; omega
theorem nZ {s : ByteArray} {N a b : Nat} (h : ∀ k, k < N → 0 < (bH s (cD s k)).2) (hab : a < b) (hb : b ≤ N) : cD s a < cD s b := by
  have h1 := h a (by omega)
  have h2 : cD s (a + 1) ≤ cD s b := uR s hab
  rw [cD] at h2
  omega
theorem oZ {s : ByteArray} {a : Nat} (h : 0 < (bH s a).2) : a + (bH s a).2 ≤ s.size ∧ ((bH s a).1 < 128 → (bH s a).2 = 1 ∧ (sb s a : Int) = (bH s a).1) ∧
    (128 ≤ (bH s a).1 → 128 ≤ sb s a ∧ 128 ≤ sb s (a + (bH s a).2 - 1)) ∧ 0 ≤ (bH s a).1 := by
  by_cases ha : a < s.size
  · rcases fF s a ha with ⟨w, h1, h2, h3, hh, -, h4, h5, -⟩ | ⟨h1, -⟩
    · rw [(oY h1 h2 h3 hh).1]
      refine ⟨h3, ?_, ?_, h4⟩
      all_goals
        have e : w = 1 ∨ w = 2 ∨ w = 3 ∨ w = 4 := by omega
        rcases e with rfl | rfl | rfl | rfl
        · have := (hit1 s a).1 hh
          intro hg
          rw [show dL s a 1 = (sb s a : Int) from by simp [dL]] at hg ⊢
          dsimp only
          omega
        · have := (hit2 s a).1 hh
          intro hg
          simp only [dL, if_true, show (2 : Nat) ≠ 1 from by decide, if_false, show a + 2 - 1 = a + 1 from by omega] at hg ⊢
          omega
        · have := (hit3 s a).1 hh
          intro hg
          simp only [dL, if_true, show (3 : Nat) ≠ 1 from by decide, show (3 : Nat) ≠ 2 from by decide, if_false, show a + 3 - 1 = a + 2 from by omega] at hg ⊢
          omega
        · have := (hit4 s a).1 hh
          intro hg
          simp only [dL, if_true, show (4 : Nat) ≠ 1 from by decide, show (4 : Nat) ≠ 2 from by decide, show (4 : Nat) ≠ 3 from by decide, if_false, show a + 4 - 1 = a + 3 from by omega] at hg ⊢
          omega
    · rw [sB h1] at h; cases h
  · rw [oX (by omega)] at h; cases h
def sV (s : ByteArray) (j : Int) : Prop := 0 ≤ j ∧ j < s.size ∧ fR (sb s j.toNat)
instance (s : ByteArray) (j : Int) : Decidable (sV s j) := by unfold sV; infer_instance
def sW (s : ByteArray) (c : In) (i : Nat) : Prop := c.op = 3 ∨ c.op = 4 ∨ c.op = 10 ∨ (c.op = 5 ∧ i = 0) ∨ (c.op = 6 ∧ i = s.size) ∨ (c.op = 7 ∧ (i = 0 ∨ sb s (i - 1) = 10)) ∨ (c.op = 8 ∧ (i = s.size ∨ sb s i = 10)) ∨
  (c.op = 9 ∧ (¬ (sV s ((i : Int) - 1) ↔ sV s i) ↔ c.arg = 0))
def VV (l : List In) (s : ByteArray) (i p q : Nat) : Prop := ∃ c, l[p]? = some c ∧ sW s c i ∧ ((q : Int) = c.out ∨ (c.op = 3 ∧ (q : Int) = c.alt))
def EatB (l : List In) (s : ByteArray) (i p q : Nat) : Prop := ∃ c, l[p]? = some c ∧ c.op = 2 ∧ (q : Int) = c.out ∧ 0 < (bH s i).2 ∧ InR (bH s i).1 c.rs
theorem tV {s : ByteArray} {a : Nat} (h : 0 < (bH s a).2) : (sb s a = 10 ↔ (bH s a).1 = 10) ∧ (sb s (a + (bH s a).2 - 1) = 10 ↔ (bH s a).1 = 10) := by
  obtain ⟨h1, h2, h3, h4⟩ := oZ h
  by_cases e : (bH s a).1 < 128
  · obtain ⟨h5, h6⟩ := h2 e
    rw [h5, Nat.add_sub_cancel]; omega
  · have := h3 (by omega); omega
theorem AF {s : ByteArray} {a : Nat} (h : 0 < (bH s a).2) : (fR (sb s a) ↔ wP (bH s a).1) ∧ (fR (sb s (a + (bH s a).2 - 1)) ↔ wP (bH s a).1) := by
  obtain ⟨h1, h2, h3, h4⟩ := oZ h
  unfold fR wP
  by_cases e : (bH s a).1 < 128
  · obtain ⟨h5, h6⟩ := h2 e
    rw [h5, Nat.add_sub_cancel]; omega
  · have := h3 (by omega); omega
theorem bef_iff {s : ByteArray} {N k : Nat} (hU : Utf s N) (hk : k ≤ N) : sV s ((cD s k : Nat) - 1) ↔ Bef (dO s N) k := by
  unfold sV Bef
  cases k with
  | zero => simp [cD]
  | succ k =>
    have hw := hU.2 k (by omega)
    have h1 := tY s (k + 1)
    rw [Nat.add_sub_cancel, jE (by omega)]
    rw [cD] at h1 ⊢
    rw [show (((cD s k + (bH s (cD s k)).2 : Nat) : Int) - 1).toNat = cD s k + (bH s (cD s k)).2 - 1 from by omega, (AF hw).2]
    constructor
    · exact fun h => ⟨by omega, _, rfl, h.2.2⟩
    · rintro ⟨-, c, hc, h⟩
      cases hc
      exact ⟨by omega, by omega, h⟩
theorem CG {s : ByteArray} {N k : Nat} (hU : Utf s N) (hk : k ≤ N) : cD s k = s.size ↔ k = N := by
  constructor
  · intro h
    by_cases e : k = N
    · exact e
    · have := nZ hU.2 (show k < N by omega) (Nat.le_refl _)
      rw [hU.1] at this; omega
  · rintro rfl; exact hU.1
theorem SP {s : ByteArray} {N k : Nat} (hU : Utf s N) (hk : k ≤ N) : cD s k = 0 ↔ k = 0 := by
  constructor
  · intro h
    by_cases e : k = 0
    · exact e
    · have := nZ hU.2 (show 0 < k by omega) hk
      omega
  · rintro rfl; rfl
theorem aft_iff {s : ByteArray} {N k : Nat} (hU : Utf s N) (hk : k ≤ N) : sV s (cD s k : Nat) ↔ Aft (dO s N) k := by
  unfold sV Aft
  by_cases e : k = N
  · have h1 := (CG hU hk).2 e
    constructor
    · intro h; omega
    · rintro ⟨c, hc, -⟩
      rw [List.getElem?_eq_none (by rw [iL]; omega)] at hc; cases hc
  · have hw := hU.2 k (by omega)
    have h1 := (oZ hw).1
    rw [jE (by omega), Int.toNat_natCast, (AF hw).1]
    constructor
    · exact fun h => ⟨_, rfl, h.2.2⟩
    · rintro ⟨c, hc, h⟩
      cases hc
      exact ⟨by omega, by omega, h⟩
theorem FC {s : ByteArray} {N k : Nat} (hU : Utf s N) (hk : k ≤ N) (c : In) : sW s c (cD s k) ↔ jS (dO s N) c k := by
  have e1 := SP hU hk
  have e2 := CG hU hk
  have e3 := bef_iff hU hk
  have e4 := aft_iff hU hk
  have e5 : k = 0 ∨ (sb s (cD s k - 1) = 10 ↔ (dO s N)[k - 1]? = some 10) := by
    cases k with
    | zero => exact .inl rfl
    | succ k =>
      right
      rw [Nat.add_sub_cancel, jE (by omega), cD, (tV (hU.2 k (by omega))).2, Option.some.injEq]
      rfl
  have e6 : k = N ∨ (sb s (cD s k) = 10 ↔ (dO s N)[k]? = some 10) := by
    by_cases e : k = N
    · exact .inl e
    · right
      rw [jE (by omega), (tV (hU.2 k (by omega))).1, Option.some.injEq]
      rfl
  unfold sW jS Plc
  rw [iL]
  by_cases h3 : c.op = 3
  · simp [h3]
  by_cases h4 : c.op = 4
  · simp [h4]
  by_cases h10 : c.op = 10
  · simp [h10]
  by_cases h5 : c.op = 5
  · simp [h5, e1]
  by_cases h6 : c.op = 6
  · simp [h6, e2]
  by_cases h7 : c.op = 7
  · simp [h7, e1]
    rcases e5 with e5 | e5
    · simp [e5]
    · rw [e5]
  by_cases h8 : c.op = 8
  · simp [h8, e2]
    rcases e6 with e6 | e6
    · simp [e6]
    · rw [e6]
  by_cases h9 : c.op = 9
  · rw [e3, e4]
    by_cases ha : c.arg = 0
    · simp [h9, ha]
    · simp [h9, ha]
  · have n1 : ¬ (5 ≤ c.op ∧ c.op ≤ 8) := by clear e1 e2 e3 e4 e5 e6; omega
    simp only [h3, h4, h10, h5, h6, h7, h8, h9, false_and, false_or, or_false]
    exact iff_of_false id (fun ⟨a, b, _⟩ => n1 ⟨a, b⟩)
inductive WB (l : List In) (s : ByteArray) : Nat → Nat → Prop
  | init : WB l s 0 0
  | eps {p q k : Nat} : WB l s p k → VV l s (cD s k) p q → WB l s q k
  | eat {p q k : Nat} : WB l s p k → EatB l s (cD s k) p q → WB l s q (k + 1)
def mM (c : In) : Prop := c.op ≠ 1 ∧ 0 ≤ c.out ∧ 0 ≤ c.alt ∧ c.rs.length ≤ 1048576
structure ProgOk (x : Rx) (l : List In) (n : Nat) : Prop where
  len : l.length = n + 1
  last : l[n]? = some ⟨1, 0, 0, 0, []⟩
  ops : ∀ p c, p < n → l[p]? = some c → mM c
  blk : Blk l x 0 n
  good : Good x
section
variable {x : Rx} {l : List In} {n : Nat}
theorem ProgOk.leads (h : ProgOk x l n) (rs : List Int) : Leads l rs 0 n (Mt rs x) := sJ h.good 0 n h.blk
theorem ProgOk.stuck (h : ProgOk x l n) {rs : List Int} {i q j : Nat} : ¬ zJ l rs n i q j := fun hs => by
  rcases qR h.last hs with ⟨-, hg, -⟩ | ⟨-, h2, -⟩
  · unfold jS at hg; simp at hg
  · cases h2
theorem NI {s : ByteArray} {N k p q : Nat} (hU : Utf s N) (hk : k ≤ N) : VV l s (cD s k) p q ↔ Eps l (dO s N) k p q := by
  unfold VV Eps
  constructor
  · rintro ⟨c, h1, h2, h3⟩; exact ⟨c, h1, (FC hU hk c).1 h2, h3⟩
  · rintro ⟨c, h1, h2, h3⟩; exact ⟨c, h1, (FC hU hk c).2 h2, h3⟩
theorem NJ {s : ByteArray} {N k p q : Nat} (hU : Utf s N) (hk : k ≤ N) : EatB l s (cD s k) p q ↔ Eat l (dO s N) k p q := by
  unfold EatB Eat
  constructor
  · rintro ⟨c, h1, h2, h3, h4, h5⟩
    have : k < N := by
      by_cases e : k = N
      · have := (oZ h4).1
        have h6 := (CG hU hk).2 e
        omega
      · omega
    exact ⟨c, h1, h2, h3, _, jE this, h5⟩
  · rintro ⟨c, h1, h2, h3, r, h4, h5⟩
    have hk' : k < N := by
      by_cases e : k < N
      · exact e
      · rw [List.getElem?_eq_none (by rw [iL]; omega)] at h4; cases h4
    rw [jE hk'] at h4
    cases h4
    exact ⟨c, h1, h2, h3, hU.2 k hk', h5⟩
theorem wb_way {s : ByteArray} {N : Nat} (hP : ProgOk x l n) (hU : Utf s N) {p k : Nat} (h : WB l s p k) : k ≤ N → p ≤ n ∧ Way l (dO s N) 0 n p k 0 0 := by
  have hL := hP.leads (dO s N)
  induction h with
  | init => exact fun _ => ⟨by omega, .nil⟩
  | eps hw he ih =>
    rename_i p q k
    intro hk
    obtain ⟨h1, h2⟩ := ih hk
    have hs : zJ l (dO s N) p k q k := .inl ⟨rfl, (NI hU hk).1 he⟩
    have hp : p < n := by
      by_cases e : p = n
      · subst e; exact (hP.stuck hs).elim
      · omega
    exact ⟨(hL.cl _ _ _ _ (by omega) hp hs).2, h2.trans (.cons (by omega) hp hs .nil)⟩
  | eat hw he ih =>
    rename_i p q k
    intro hk
    obtain ⟨h1, h2⟩ := ih (by omega)
    have hs : zJ l (dO s N) p k q (k + 1) := .inr ⟨rfl, (NJ hU (by omega)).1 he⟩
    have hp : p < n := by
      by_cases e : p = n
      · subst e; exact (hP.stuck hs).elim
      · omega
    exact ⟨(hL.cl _ _ _ _ (by omega) hp hs).2, h2.trans (.cons (by omega) hp hs .nil)⟩
theorem way_le {rs : List Int} {a b q j p i : Nat} (h : Way l rs a b q j p i) : i ≤ j := by
  induction h with
  | nil => exact Nat.le_refl _
  | cons _ _ hs _ ih => rcases hs with ⟨rfl, -⟩ | ⟨rfl, -⟩ <;> omega
theorem way_wb {s : ByteArray} {N : Nat} (hU : Utf s N) {q j p i : Nat} (h : Way l (dO s N) 0 n q j p i) : j ≤ N → WB l s p i → WB l s q j := by
  induction h with
  | nil => exact fun _ h => h
  | cons ha hb hs hw ih =>
    rename_i p i p' i'
    intro hj hp
    refine ih hj ?_
    have hle : i' ≤ j := way_le hw
    rcases hs with ⟨rfl, he⟩ | ⟨rfl, he⟩
    · exact .eps hp ((NI hU (by omega)).2 he)
    · exact .eat hp ((NJ hU (by omega)).2 he)
theorem zZ {s : ByteArray} {N : Nat} (hP : ProgOk x l n) (hU : Utf s N) : (∃ p c, WB l s p N ∧ l[p]? = some c ∧ c.op = 1) ↔ Mt (dO s N) x 0 N := by
  rw [← (hP.leads _).way]
  constructor
  · rintro ⟨p, c, h1, h2, h3⟩
    obtain ⟨h4, h5⟩ := wb_way hP hU h1 (Nat.le_refl _)
    by_cases e : p = n
    · subst e; exact h5
    · exact ((hP.ops p c (by omega) h2).1 h3).elim
  · exact fun h => ⟨n, _, way_wb hU h (Nat.le_refl _) .init, hP.last, rfl⟩
end
section
variable {l : List In} {s : ByteArray} {i : Nat} {init ls out : List Nat} {k : Nat}
end
end Go.Proofs.Ytidpigbinpaaeaa
namespace Go.W
open Go.RowKit
section
variable {P : Program} {σ : Env} {w : World} {dst : Option Nat} {T : TypeId} {pos : String} {after : Array Edge} {g : Option (Nat × Bool)}
theorem QW (n : Nat) {t e : TypeId} {a : Option Addr} {k c : Nat} (ht : P.underlying t = some (.slice e)) : (Op.equalIn (n + 1) t (.slice a k c) (.slice none 0 0)).run P w = .ok a.isNone w := by
  cases a <;> simp [Op.equalIn, run_underlying ht]
theorem ND {x y : Operand} {t e t' : TypeId} {a : Option Addr} {k c : Nat} (hx : σ.ev x = some (.slice a k c)) (hy : σ.ev y = some (.slice none 0 0)) (ht : P.underlying t = some (.slice e)) :
    Ex P σ ⟨dst, .binOp .eql t x y t', T, pos, after, g⟩ w (.bool a.isNone) w := fun ρ hρ => by
  have h1 : (Op.equal t (.slice a k c) (.slice none 0 0)).run P w = .ok a.isNone w := QW 9999 ht
  simp [execOp, hρ x _ hx, hρ y _ hy, eqGuard, Go.binOp, h1]
theorem cP {x i : Operand} {t : TypeId} {k : IntKind} {n sz b o len c : Nat} {a : Option Addr} (hx : σ.ev x = some (.slice a len c)) (hi : σ.ev i = some (.int k (n : Nat))) (ha : a = some ⟨b, o, none⟩) (he : pG P t = some sz) (hlt : n < len) :
    Ex P σ ⟨dst, .indexAddr t x i, T, pos, after, g⟩ w (.pointer (some ⟨b, o + n * sz, none⟩)) w := by
  subst ha; exact cG hx hi he hlt
theorem jI {x lo : Operand} {t : TypeId} {s : ByteArray} {lv : Int} {l : Nat} (hx : σ.ev x = some (.string s)) (hlo : σ.ev lo = some (.int .i64 lv)) (ht : P.underlying t = some .string) (hl : lv = (l : Int)) (hlh : l ≤ s.size) :
    Ex P σ ⟨dst, .slice t x (some lo) none none, T, pos, after, g⟩ w (.string (s.extract l s.size)) w := fun ρ hρ => by
  subst hl
  have := run_slice_string_l (P := P) w t s ht .i64 (l : Int) (by omega) (by omega)
  simp only [execOp, hρ x _ hx, Option.map_some, Option.map_none, hρ lo _ hlo, Instr.sliceAt, run_underlying ht, Sem.run_bind, Result.andThen_ok, this, Int.toNat_natCast, Sem.run_pure]
theorem PF {x hi : Operand} {t : TypeId} {s : ByteArray} {hv : Int} {h : Nat} (hx : σ.ev x = some (.string s)) (hhi : σ.ev hi = some (.int .i64 hv)) (ht : P.underlying t = some .string) (hh : hv = (h : Int)) (hhc : h ≤ s.size) :
    Ex P σ ⟨dst, .slice t x none (some hi) none, T, pos, after, g⟩ w (.string (s.extract 0 h)) w := fun ρ hρ => by
  subst hh
  have := run_slice_string_h (P := P) w t s ht .i64 (h : Int) (by omega) (by omega)
  simp only [execOp, hρ x _ hx, Option.map_some, Option.map_none, hρ hi _ hhi, Instr.sliceAt, run_underlying ht, Sem.run_bind, Result.andThen_ok, this, Int.toNat_natCast, Sem.run_pure]
end
end Go.W
namespace Go.Proofs.Ytidpigbinpaaeaa
open Go.RowKit Go.W
attribute [local irreducible] Decidable.decide
theorem fK : kT Try.prog 65 = some false := by kernel_rfl
theorem sL : kT Try.prog 68 = some true := by kernel_rfl
theorem fJ : DL Try.prog 34 34 = some (78, 2, 8) := by kernel_rfl
theorem qI : DL Try.prog 65 65 = some (68, 5, 56) := by kernel_rfl
theorem lR : pG Try.prog 65 = some 5 := by kernel_rfl
theorem gX : cX Try.prog 68 1 = some 1 := by kernel_rfl
theorem rN : cX Try.prog 68 2 = some 2 := by kernel_rfl
theorem tH : fQ Try.prog 65 = some 1 := by kernel_rfl
theorem lP : fQ Try.prog 68 = some 5 := by kernel_rfl
theorem gG : pN Try.prog 34 = some (78, 2) := by kernel_rfl
theorem rK : pN Try.prog 65 = some (68, 5) := by kernel_rfl
structure CdAt (w : World) (cb : Nat) (es : List Iv) (a : Option Addr) (c : Nat) (ob : Option Nat) (Z : List Nat) : Prop where
  blk : w.heap[cb]? = some (.cells #[.slice a es.length c] 65 (0, 0))
  own : OwnS w 68 5 a es.length c (oN es) ob
  ne : ∀ g, ob = some g → g ≠ cb
  rs : ∀ e, e ∈ es → RSl 2 RRg (cb :: (ob.toList ++ Z)) w e.2 e.1.rs
theorem CdAt.lt {w : World} {cb : Nat} {es : List Iv} {a : Option Addr} {c : Nat} {ob : Option Nat} {Z : List Nat} (h : CdAt w cb es a c ob Z) : ∀ y, y ∈ cb :: ob.toList → y < w.heap.size := fun y hy => by
  rcases List.mem_cons.1 hy with e | e
  · rw [e]; exact eM h.blk
  · have : ob = some y := by simpa using e
    subst this; exact h.own.lt
theorem dT {w : World} {cb : Nat} {ob ob' : Option Nat} (h : ob' = ob ∨ ∃ g, ob' = some g ∧ w.heap.size ≤ g) : ∀ y, y ∈ cb :: ob'.toList → y ∈ cb :: ob.toList ∨ w.heap.size ≤ y := fun y hy => by
  rcases List.mem_cons.1 hy with e | e
  · left; simp [e]
  · have e' : ob' = some y := by simpa using e
    rcases h with rfl | ⟨g, h1, h2⟩
    · left; simp [e']
    · rw [e'] at h1; cases h1; exact .inr h2
theorem CM {w : World} {cb : Nat} {ob ob' : Option Nat} {Z : List Nat} (h : ob' = ob ∨ ∃ g, ob' = some g ∧ w.heap.size ≤ g) : ∀ y, y ∈ cb :: (ob'.toList ++ Z) → y ∈ cb :: (ob.toList ++ Z) ∨ w.heap.size ≤ y := fun y hy => by
  rw [← List.cons_append] at hy
  rcases List.mem_append.1 hy with e | e
  · exact (dT h y e).imp (fun h => by rw [← List.cons_append]; exact List.mem_append_left _ h) id
  · left; rw [← List.cons_append]; exact List.mem_append_right _ e
theorem dW {X : List Nat} {w w1 : World} {o o1 o2 : Option Nat} (h1 : o1 = o ∨ ∃ g, o1 = some g ∧ w.heap.size ≤ g) (he : Evo X w w1) (h2 : o2 = o1 ∨ ∃ g, o2 = some g ∧ w1.heap.size ≤ g) : o2 = o ∨ ∃ g, o2 = some g ∧ w.heap.size ≤ g := by
  rcases h2 with rfl | ⟨g, h3, h4⟩
  · exact h1
  · exact .inr ⟨g, h3, Nat.le_trans he.size h4⟩
theorem oU {X Y : List Nat} {w w' : World} {v : Value} {l : List (Int × Int)} (h : RSl 2 RRg X w v l) (he : Evo X w w') (hy : ∀ y, y ∈ Y → y ∈ X ∨ w.heap.size ≤ y) : RSl 2 RRg Y w' v l := by
  have h1 : RSl 2 RRg (Y ++ X) w v l := RSl.fresh (by decide) RRg.fresh (fun y hm => by rcases List.mem_append.1 hm with h | h; exact hy y h; exact .inl h) h
  have h2 := RSl.evo RRg.pers (he.mono (fun b hb => by simp [hb])) h1
  obtain ⟨a, c, hv, hc, h3⟩ := h2
  exact ⟨a, c, hv, hc, fun k hk => by obtain ⟨b, o, vs, ha, hb, hl, hcs, hr⟩ := h3 k hk; exact ⟨b, o, vs, ha, fun hm => hb (by simp [hm]), hl, hcs, hr⟩⟩
theorem RRg.one : ∀ X w vs d, RRg X w vs d → ∀ u, u ∈ vs → u.oneCell' = true := fun _ _ _ _ h u hu => by
  subst h; simp at hu; rcases hu with rfl | rfl <;> rfl
theorem xP {α : Type} (f g : α → α) (l : List α) (k : Nat) : (l.modify k f).modify k g = l.modify k (fun e => g (f e)) := by
  apply List.ext_getElem?
  intro i
  rw [List.getElem?_modify, List.getElem?_modify, List.getElem?_modify]
  cases l[i]? with
  | none => rfl
  | some v => by_cases e : k = i <;> simp [e]
def HI (w w' : World) (cb : Nat) (ob : Option Nat) (es : List Iv) (Z : List Nat) : Prop := ∃ a c ob', CdAt w' cb es a c ob' Z ∧ (ob' = ob ∨ ∃ g, ob' = some g ∧ w.heap.size ≤ g)
theorem CdAt.evo {w w' : World} {cb : Nat} {es : List Iv} {a : Option Addr} {c : Nat} {ob : Option Nat} {Y Z Z' : List Nat} (h : CdAt w cb es a c ob Z) (he : Evo Y w w') (h1 : cb ∉ Y) (h2 : ∀ g, ob = some g → g ∉ Y) (hY : ∀ y, y ∈ Y → y ∈ Z) (hZ : ∀ z, z ∈ Z' → z ∈ Z ∨ w.heap.size ≤ z) : CdAt w' cb es a c ob Z' :=
  ⟨he.blk h.blk h1, h.own.evo he h2, h.ne, fun e hm => oU (h.rs e hm) (he.mono (fun b hb => List.mem_cons_of_mem _ (List.mem_append_right _ (hY b hb)))) (fun y hy => by
    rw [← List.cons_append] at hy
    rcases List.mem_append.1 hy with e | e
    · left; rw [← List.cons_append]; exact List.mem_append_left _ e
    · exact (hZ y e).imp (fun h => by rw [← List.cons_append]; exact List.mem_append_right _ h) id)⟩
theorem CdAt.evo0 {w w' : World} {cb : Nat} {es : List Iv} {a : Option Addr} {c : Nat} {ob : Option Nat} {Z : List Nat} (h : CdAt w cb es a c ob Z) (he : Evo [] w w') : CdAt w' cb es a c ob Z := h.evo he (by simp) (by simp) (by simp) (fun z hz => .inl hz)
theorem jX {w : World} {cb : Nat} {es : List Iv} {a : Option Addr} {c : Nat} {ob : Option Nat} {op o al arg : Int} {vr : Value} {rs : List (Int × Int)} {Z : List Nat} (hC : CdAt w cb es a c ob Z) (hr : RSl 2 RRg (cb :: (ob.toList ++ Z)) w vr rs) (hl : es.length ≤ 1000000) :
    Calls Try.prog 30 #[.pointer (some ⟨cb, 0, none⟩), .agg #[iv op, iv o, iv al, iv arg, vr]] w (Ret fun v w' => v = iv (es.length : Nat) ∧ Evo (cb :: ob.toList) w w' ∧ HI w w' cb ob (es ++ [(⟨op, (es.length : Nat) + 1, al, arg, rs⟩, vr)]) Z) := by
  have a8 := hC; obtain ⟨hB, hO, hne, hrs⟩ := hC
  have hAJN : Apart (some cb) ob := fun g h1 h2 => by cases h1; exact hne cb h2 rfl
  have hone := hr.one
  have hmZ : ∀ b, b ∈ cb :: ob.toList → b ∈ cb :: (ob.toList ++ Z) := fun b hb => by rw [← List.cons_append]; exact List.mem_append_left _ hb
  have hcell := hr.cell; refine bE (N := 22) Try.func30 rfl rfl rfl ?_; refine csr (gD rfl rfl fun b1 w2 a9 M L => ?_); have a4 := Apart.new (Lt.own hO) M; refine wan (csr (aB (aA (aF rfl) (aA (aS rfl fK (aY (L.blk0 hB) rfl)) (aA (aZ rfl Try.underlying65 rfl) ?_))))); refine wan (csr (aB ?_)); refine aA (aK rfl rfl (by omega) (by omega)) ?_; refine aA (aD rfl gX) ?_; refine bB rfl rfl (by first | rfl | assumption) bY a9 rfl fun b6 O F => ?_
  try simp only [cH, Nat.reduceAdd] at O
  refine wnn (aI ?_); refine fT (fun w0 w' => Evo ob.toList w0 w') (by kernel_rfl) (fun B D => ?_); have H := D.blk0 (F.blk (L.blk0 hB) (Apart.new (Lt.blk hB) M).nmem1); refine aet 0 rfl (fun _ hS => aX rfl) (Evo.refl ob.toList B) ?_; refine aet 1 rfl (fun _ hS => aX rfl) (Evo.refl ob.toList B) ?_; refine aet 2 rfl (fun _ hS => aF rfl) (Evo.refl ob.toList B) ?_; refine aet 3 rfl (fun _ hS => aS rfl fK (aY (hS.blk H (hAJN.nmem)) rfl)) (Evo.refl ob.toList B) ?_; refine aet 4 rfl (fun _ hS => bW rfl sL lP (hS.blk (D.blk0 O) (a4.symm.nmem)) rfl) (Evo.refl ob.toList B) ?_; refine bV [5] (by kernel_rfl) rfl ⟨?_, trivial⟩; refine cA rfl ?_; refine bM (vs := [_]) rfl rK rfl rfl rfl rfl fun b7 b8 a5 b5 A => ?_; have U := ((((Evo.refl (cb :: ob.toList) w).then L).step F (Ge.new (Evo.refl (cb :: ob.toList) w) M).mem1).then D).then A; have V := (Evo.refl ob.toList B).then A; refine aQ (bO (.inl V) ?_); refine bV [6] (by kernel_rfl) rfl ⟨?_, trivial⟩; refine cA rfl ?_; have hszg := (U).size
  refine cZ rfl rfl rfl rfl qI ((((hO.evo0 L).evo F a4.own1).evo0 D).evo0 A) (Src.ofOwn a5 ⟨by first | rfl | assumption, by first | rfl | assumption, by first | rfl | assumption, by first | rfl | assumption, by first | rfl | assumption, trivial⟩) (by omega) fun a2 c2 b9 ob2 b4 I hob45 => ?_; have a6 := U.step I (fun y hy => .inl (List.mem_cons_of_mem _ hy)); have a0 := V.step I (fun y hy => .inl hy); have hob2 : ob2 = ob ∨ ∃ g, ob2 = some g ∧ w.heap.size ≤ g := hob45.imp id (fun ⟨g, h1, h2⟩ => ⟨g, h1, Nat.le_trans hszg h2⟩); refine aQ (bO (.inl a0) ?_); refine aet 7 rfl (fun _ hS => aF rfl) a0 ?_; refine bV [8] (by kernel_rfl) rfl ⟨?_, trivial⟩; refine cA rfl ?_; refine bB rfl rfl (by first | rfl | assumption) tH (I.blk (A.blk0 H) hAJN.nmem) rfl fun c0 a1 a3 => ?_
  have J := a6.step a3 (fun y hy => .inl (by rw [List.mem_singleton.1 hy]; exact List.mem_cons_self ..))
  have a7 := b4.evo a3 (hAJN.app (Lt.blk (A.blk0 H)) hob45).symm.own1
  try simp only [cH, Nat.reduceAdd] at a1
  refine aQ (bO (.inr (by kernel_rfl)) ?_); refine dH (by kernel_rfl) (aC ?_); refine csr (aB (wan (aH (br1 ?_)))); refine ⟨rfl, J, a2, c2, ob2, ⟨?_, ?_, CC hne (eM a8.blk) hob2, fun e he => ?_⟩, hob2⟩
  · rw [List.length_append]; exact a1
  · rw [List.length_append, rD]; exact a7
  · rcases List.mem_append.1 he with he | he
    · exact oU (hrs e he) ((J).mono hmZ) (CM hob2)
    · rw [List.mem_singleton] at he; subst he; exact oU hr ((J).mono hmZ) (CM hob2)
theorem turn_ok {w : World} {es : List Iv} {a : Option Addr} {c k : Nat} {ob : Option Nat} {i o : Int} {z : Bool} (hO : OwnS w 68 5 a es.length c (oN es) ob) (hk : k < es.length) :
    Calls Try.prog 38 #[.slice a es.length c, .int .i64 (k : Nat), .int .i64 i, .int .i64 o, .bool z] w (Ret fun v w' => v = .tuple #[] ∧ Evo ob.toList w w' ∧ OwnS w' 68 5 a es.length c (oN (es.modify k (fun e => (⟨e.1.op, if z then o else i, if z then i else o, e.1.arg, e.1.rs⟩, e.2)))) ob) := by
  obtain ⟨g0, hg0, rfl, -⟩ := hO.cells (by omega)
  have hsame : ∀ (f g : Iv → Iv), (∀ e, f e = g e) → es.modify k f = es.modify k g := fun f g h => by rw [show f = g from funext h]
  refine bE (N := 23) Try.func38 rfl rfl rfl ?_; refine aI (csr (aB (wnn (fG rfl (fun B => ?_) (fun B => ?_)))))
  ·refine aG (aB (aB (bX (wan (aG (aB (aB (aB (aB (aB (aB (aA (cG (n := k) rfl rfl lR hk) ?_)))))))))))); refine aA (aD rfl gX) ?_
   obtain ⟨g10, cur1, hg2, hx3, hcu4, hcs5, -⟩ := hO.at (by omega)
   cases hx3; refine fW rfl rfl (rfl) bY hcu4 (hO.inb hcs5 (k := k) (j := 1) (by omega) (by omega) (by omega)) fun w6 a2 J => ?_; replace J := jQ hg2 J; have I := hO.set' hg2 hcu4 a2; have O := (Evo.refl ob.toList w).step J (fun y hy => .inl hy); rw [show 0 + k * 5 + 1 = k * 5 + 1 from by omega, oE hk] at I; refine aA (cG (n := k) rfl rfl lR hk) ?_; refine aA (aD rfl rN) ?_
   obtain ⟨g21, cur12, hg13, hx14, hcu15, hcs16, -⟩ := I.at (by omega)
   cases hx14; refine fW rfl rfl (rfl) bY hcu15 (I.inb hcs16 (k := k) (j := 2) (by omega) (by omega) (by omega)) fun a3 U D => ?_; replace D := jQ hg13 D; have L := I.set' hg13 hcu15 U
   rw [show 0 + k * 5 + 2 = k * 5 + 2 from by omega, vO (by rw [List.length_modify]; exact hk)] at L
   refine aQ (eA rfl ?_); refine ⟨rfl, (O.step D (fun y hy => .inl hy)), ?_⟩; have h := L; rw [xP] at h; subst B; exact h
  refine aM (aC (aG (aB (aB (aB (aB (aB (aB (aA (cG (n := k) rfl rfl lR hk) ?_))))))))); refine aA (aD rfl gX) ?_
  obtain ⟨g32, cur23, hg24, hx25, hcu26, hcs27, -⟩ := hO.at (by omega)
  cases hx25; refine fW rfl rfl (rfl) bY hcu26 (hO.inb hcs27 (k := k) (j := 1) (by omega) (by omega) (by omega)) fun a4 V F => ?_; replace F := jQ hg24 F; have A := hO.set' hg24 hcu26 V; have a0 := (Evo.refl ob.toList w).step F (fun y hy => .inl hy); rw [show 0 + k * 5 + 1 = k * 5 + 1 from by omega, oE hk] at A; refine aA (cG (n := k) rfl rfl lR hk) ?_; refine aA (aD rfl rN) ?_
  obtain ⟨g43, cur34, hg35, hx36, hcu37, hcs38, -⟩ := A.at (by omega)
  cases hx36; refine fW rfl rfl (rfl) bY hcu37 (A.inb hcs38 (k := k) (j := 2) (by omega) (by omega) (by omega)) fun a5 a1 H => ?_; replace H := jQ hg35 H; have M := A.set' hg35 hcu37 a1
  rw [show 0 + k * 5 + 2 = k * 5 + 2 from by omega, vO (by rw [List.length_modify]; exact hk)] at M
  refine aQ (eA rfl ?_); refine ⟨rfl, (a0.step H (fun y hy => .inl hy)), ?_⟩; have h := M; rw [xP] at h; subst B; exact h
theorem JI {X Y : List Nat} {w : World} {v : Value} {l : List (Int × Int)} (hs : RSl 2 RRg Y w v l) (hX : ∀ b, b ∈ X → b < w.heap.size) (hl : l.length ≤ 1048576) :
    Calls Try.prog 31 #[v] w (Ret fun v' w' => RSl 2 RRg X w' v' l ∧ Evo [] w w') := by
  have I := hs; obtain ⟨sa, sc, rfl, hlc, e1⟩ := hs; refine bE (N := 8) Try.func31 rfl rfl rfl ?_; refine csr (wan (aI (csr (aB (aA (ND rfl rfl Try.underlying34) ?_))))); refine wnn (fG rfl (fun B => ?_) (fun B => ?_))
  ·refine csr (wan (aH (aE (br1 ?_))))
   have h0 : l = [] := by
      cases l with
      | nil => rfl
      | cons x xs => obtain ⟨b, o, vs, ha, -⟩ := e1 0 (by simp); subst ha; cases B
   subst h0; exact ⟨⟨none, 0, rfl, Nat.le_refl _, fun k hk => by cases hk⟩, (Evo.refl [] w)⟩
  refine aM (aC (csr (bM (vs := []) rfl gG rfl rfl rfl rfl fun b1 w2 J L M => ?_))); have D := Ge.new (Evo.refl [] w) L; have A := (Evo.refl [] w).then M; refine aB ?_; obtain ⟨rows, hrow, hsrc⟩ := I.rows (P := Try.prog) ((A).any _) RRg.one; refine cZ rfl rfl rfl rfl fJ J hsrc (by omega) fun a2 c2 O ob2 F H hob14 => ?_; refine wan (aH (br1 ?_)); refine ⟨?_, (A.step H D.mem)⟩; have hge := (D.app A hob14)
  exact RSl.ofOwn (rows := rows) F ⟨hrow.1, fun k hk hk' => hrow.2 k hk hk'⟩ (by omega) (fun g hg hm => by have := hge g hg; have := hX g hm; omega)
end Go.Proofs.Ytidpigbinpaaeaa
namespace Go.Proofs.Ytidpigbinpaaeaa
open Go.RowKit Go.W
theorem oQ (l : List In) (x : Rx) (a b : Nat) : Blk l x a b ↔
    (x.kind = 1 → b = a) ∧
    (x.kind = 2 → b = a + 1 ∧ l[a]? = some ⟨2, (a : Int) + 1, 0, 0, [(x.r, x.r)]⟩) ∧
    (x.kind = 3 → b = a + 1 ∧ l[a]? = some (if x.ranges = [] then ⟨11, 0, 0, 0, []⟩ else ⟨2, (a : Int) + 1, 0, 0, x.ranges⟩)) ∧
    (x.kind = 4 → gQ l x.kids a b) ∧
    (x.kind = 5 → qP l x.kids a b) ∧
    (x.kind = 6 → ∃ m, Rep (gQ l x.kids) x.min.toNat a m ∧ (x.max = -1 → ∃ m', l[m]? = some (In.sp x.lazy (m + 1) b) ∧ gQ l x.kids (m + 1) m' ∧ l[m']? = some ⟨10, (m : Int), 0, 0, []⟩ ∧ b = m' + 1) ∧
      (x.max ≠ -1 → Opt l x.lazy (gQ l x.kids) b (x.max - x.min).toNat m)) ∧
    (x.kind = 7 → ∃ m, l[a]? = some ⟨4, (a : Int) + 1, 0, 2 * x.cap, []⟩ ∧ gQ l x.kids (a + 1) m ∧ l[m]? = some ⟨4, (m : Int) + 1, 0, 2 * x.cap + 1, []⟩ ∧ b = m + 1) ∧
    (8 ≤ x.kind → b = a + 1 ∧ l[a]? = some (kX x.kind a)) := by
  cases x; rw [Blk]; rfl
theorem BL {l : List In} {x : Rx} {b m : Nat} (hb : Blk l x m b) : ∀ {ks : List Rx} {a : Nat}, gQ l ks a m → gQ l (ks ++ [x]) a b
  | [], a, h => by rw [gQ] at h; subst h; exact rH.2 hb
  | k :: ks, a, h => by
    rw [gQ] at h
    obtain ⟨m', h1, h2⟩ := h
    rw [List.cons_append, gQ]
    exact ⟨m', h1, BL hb h2⟩
def CatC (ks : List Rx) (a : Nat) (k : List In) : Prop := ∀ l, Has l a k → gQ l ks a (a + k.length)
theorem CatC.nil (a : Nat) : CatC [] a [] := fun l _ => by rw [gQ]; rfl
theorem CatC.snoc {ks : List Rx} {x : Rx} {a : Nat} {k kx : List In} (h : CatC ks a k) (hx : gH x (a + k.length) kx) : CatC (ks ++ [x]) a (k ++ kx) := fun l hl => by
  rw [List.length_append, ← Nat.add_assoc]
  exact BL (hx l hl.right) (h l hl.left)
section
variable {x y : Rx} {a : Nat} {k kx : List In}
theorem GE (h : x.kind = 1) : gH x a [] := fun l hl => (oQ l x a _).2 ⟨fun _ => rfl, fun _ => by omega, fun _ => by omega, fun _ => by omega, fun _ => by omega, fun _ => by omega, fun _ => by omega, fun _ => by omega⟩
theorem PI (h : x.kind = 2) : gH x a [⟨2, (a : Int) + 1, 0, 0, [(x.r, x.r)]⟩] := fun l hl => (oQ l x a _).2 ⟨fun _ => by omega, fun _ => ⟨rfl, hl.one⟩, fun _ => by omega, fun _ => by omega, fun _ => by omega, fun _ => by omega, fun _ => by omega, fun _ => by omega⟩
theorem JH (h : x.kind = 3) (hr : x.ranges = []) : gH x a [⟨11, 0, 0, 0, []⟩] := fun l hl => (oQ l x a _).2 ⟨fun _ => by omega, fun _ => by omega, fun _ => ⟨rfl, by rw [if_pos hr]; exact hl.one⟩, fun _ => by omega, fun _ => by omega, fun _ => by omega, fun _ => by omega, fun _ => by omega⟩
theorem GF (h : x.kind = 3) (hr : x.ranges ≠ []) : gH x a [⟨2, (a : Int) + 1, 0, 0, x.ranges⟩] := fun l hl => (oQ l x a _).2 ⟨fun _ => by omega, fun _ => by omega, fun _ => ⟨rfl, by rw [if_neg hr]; exact hl.one⟩, fun _ => by omega, fun _ => by omega, fun _ => by omega, fun _ => by omega, fun _ => by omega⟩
theorem PM (h : x.kind = 4) (hk : CatC x.kids a k) : gH x a k := fun l hl => (oQ l x a _).2 ⟨fun _ => by omega, fun _ => by omega, fun _ => by omega, fun _ => hk l hl, fun _ => by omega, fun _ => by omega, fun _ => by omega, fun _ => by omega⟩
theorem PN (h : x.kind = 5) (hk : ∀ l, Has l a k → qP l x.kids a (a + k.length)) : gH x a k := fun l hl => (oQ l x a _).2 ⟨fun _ => by omega, fun _ => by omega, fun _ => by omega, fun _ => by omega, fun _ => hk l hl, fun _ => by omega, fun _ => by omega, fun _ => by omega⟩
theorem lN (h : 8 ≤ x.kind) : gH x a [kX x.kind a] := fun l hl => (oQ l x a _).2 ⟨fun _ => by omega, fun _ => by omega, fun _ => by omega, fun _ => by omega, fun _ => by omega, fun _ => by omega, fun _ => by omega, fun _ => ⟨rfl, hl.one⟩⟩
theorem PK (h : x.kind = 7) (hk : x.kids = [y]) (hc : gH y (a + 1) k) : gH x a ([⟨4, (a : Int) + 1, 0, 2 * x.cap, []⟩] ++ (k ++ [⟨4, ((a + 1 + k.length : Nat) : Int) + 1, 0, 2 * x.cap + 1, []⟩])) := fun l hl =>
  (oQ l x a _).2 ⟨fun _ => by omega, fun _ => by omega, fun _ => by omega, fun _ => by omega, fun _ => by omega, fun _ => by omega, fun _ => ⟨a + 1 + k.length, hl.left.one, by rw [hk]; exact rH.2 (hc l hl.right.left), hl.right.right.one, by simp only [List.length_append, List.length_cons, List.length_nil]; omega⟩, fun _ => by omega⟩
theorem JG (h : x.kind = 6) (hk : x.kids = [y]) (hm : x.max = -1) (hr : RepC [y] x.min.toNat a k) (hc : gH y (a + k.length + 1) kx) :
    gH x a (k ++ ([In.sp x.lazy (a + k.length + 1) (a + k.length + 1 + kx.length + 1)] ++ (kx ++ [⟨10, ((a + k.length : Nat) : Int), 0, 0, []⟩]))) := fun l hl => by
  have hlen : a + (k ++ ([In.sp x.lazy (a + k.length + 1) (a + k.length + 1 + kx.length + 1)] ++ (kx ++ [(⟨10, ((a + k.length : Nat) : Int), 0, 0, []⟩ : In)]))).length = a + k.length + 1 + kx.length + 1 := by simp only [List.length_append, List.length_cons, List.length_nil]; omega
  rw [hlen]
  refine (oQ l x a _).2 ⟨fun _ => by omega, fun _ => by omega, fun _ => by omega, fun _ => by omega, fun _ => by omega, fun _ => ⟨a + k.length, by rw [hk]; exact hr l hl.left, fun _ => ⟨a + k.length + 1 + kx.length, hl.right.left.one, by rw [hk]; exact rH.2 (hc l hl.right.right.left), hl.right.right.right.one, rfl⟩, fun h => (h hm).elim⟩, fun _ => by omega, fun _ => by omega⟩
theorem PH {js : List Nat} {kp : List In} {r : Nat} (h : x.kind = 6) (hk : x.kids = [y]) (hm : x.max ≠ -1) (hr : RepC [y] x.min.toNat a k) (hrn : r = (x.max - x.min).toNat) (ho : OptPre x.lazy y r (a + k.length) kx js) (hkp : kp.length = kx.length)
    (hp : ∀ l, Has l (a + k.length) kp → Pat l (a + k.length) kx js (turnTo x.lazy (a + k.length + kx.length))) : gH x a (k ++ kp) := fun l hl => by
  subst hrn
  rw [List.length_append, hkp, ← Nat.add_assoc]
  refine (oQ l x a _).2 ⟨fun _ => by omega, fun _ => by omega, fun _ => by omega, fun _ => by omega, fun _ => by omega, fun _ => ⟨a + k.length, by rw [hk]; exact hr l hl.left, fun h => (hm h).elim, fun _ => ?_⟩, fun _ => by omega, fun _ => by omega⟩
  rw [hk]
  exact ho.blk l _ (hp l hl.right) 0 rfl
end
end Go.Proofs.Ytidpigbinpaaeaa
namespace Go.Proofs.Ytidpigbinpaaeaa
open Go.RowKit Go.W
attribute [local irreducible] Decidable.decide
theorem uJ : DL Try.prog 30 30 = some (3, 1, 8) := by kernel_rfl
theorem dQ : Build Try.prog 68 #[(0, 1), (1, 1), (2, 1), (3, 1), (4, 1)] #[.int .i64 0, .int .i64 0, .int .i64 0, .int .i64 0, .slice none 0 0] := ⟨_, .agg #[.int .i64 0, .int .i64 0, .int .i64 0, .int .i64 0, .slice none 0 0], Try.underlying68, by kernel_rfl, rfl, fun w => by kernel_rfl⟩
theorem dB : pG Try.prog 30 = some 1 := by kernel_rfl
theorem jJ : dY Try.prog 22 := ⟨_, Try.func22, by kernel_rfl, by kernel_rfl⟩
theorem eP : dY Try.prog 30 := ⟨_, Try.func30, by kernel_rfl, by kernel_rfl⟩
theorem tL : dY Try.prog 38 := ⟨_, Try.func38, by kernel_rfl, by kernel_rfl⟩
theorem rL : pN Try.prog 30 = some (3, 1) := by kernel_rfl
theorem CdAt.mod {w w' : World} {cb : Nat} {es : List Iv} {a : Option Addr} {c k : Nat} {ob : Option Nat} {Z : List Nat} {f : Iv → Iv} (h : CdAt w cb es a c ob Z) (he : Evo ob.toList w w') (ho : OwnS w' 68 5 a es.length c (oN (es.modify k f)) ob) (hf : ∀ e, (f e).2 = e.2 ∧ (f e).1.rs = e.1.rs) : CdAt w' cb (es.modify k f) a c ob Z := by
  refine ⟨?_, by rw [List.length_modify]; exact ho, h.ne, fun e hm => ?_⟩
  · rw [List.length_modify]
    exact he.blk h.blk (fun hm => h.ne cb (by simpa using hm) rfl)
  · obtain ⟨i, hi, rfl⟩ := List.getElem_of_mem hm
    rw [List.getElem_modify]
    have hi' : i < es.length := by simpa using hi
    have h1 := oU (h.rs es[i] (List.getElem_mem hi')) (he.mono (fun b hb => List.mem_cons_of_mem _ (List.mem_append_left _ hb))) (fun y hy => .inl hy)
    split
    · rw [(hf _).1, (hf _).2]; exact h1
    · exact h1
theorem DW {w : World} {cb : Nat} {es : List Iv} {a : Option Addr} {c k : Nat} {ob : Option Nat} {Z : List Nat} {i o : Int} {z : Bool} (h : CdAt w cb es a c ob Z) (hk : k < es.length) :
    Calls Try.prog 38 #[.slice a es.length c, .int .i64 (k : Nat), .int .i64 i, .int .i64 o, .bool z] w (Ret fun v w' => v = .tuple #[] ∧ Evo ob.toList w w' ∧ CdAt w' cb (es.modify k (fun e => (⟨e.1.op, if z then o else i, if z then i else o, e.1.arg, e.1.rs⟩, e.2))) a c ob Z) :=
  (turn_ok h.own hk).mono fun e w' ⟨v, h1, h2, h3, h4⟩ => ⟨v, h1, h2, h3, h.mod h3 h4 (fun _ => ⟨rfl, rfl⟩)⟩
theorem uS {jb : Nat} {o ob : Option Nat} (h1 : Apart o (some jb)) (h2 : Apart o ob) : ∀ g, o = some g → g ∉ jb :: ob.toList := fun g hg => by subst hg; exact nK h1 h2
theorem addr0 {b o c sz : Nat} : (if c = 0 then (some (⟨b, o, none⟩ : Addr)) else (some (⟨b, o, none⟩ : Addr)).map (·.add (0 * sz))) = some ⟨b, o, none⟩ := by
  split
  · rfl
  · simp [Addr.add]
theorem MK {A B : List Iv} {x y : Iv} {f : Iv → Iv} {k : Nat} (hk : k = A.length) : (((A ++ [x]) ++ B) ++ [y]).modify k f = A ++ ([f x] ++ (B ++ [y])) := by
  subst hk
  rw [List.append_assoc, List.append_assoc]
  induction A with
  | nil => simp [List.modify]
  | cons a A ih => rw [List.cons_append, List.length_cons, lK, ih]; rfl
theorem IL (o al : Int) (ho : 0 ≤ o) (ha : 0 ≤ al) : mM ⟨3, o, al, 0, []⟩ := ⟨by simp, ho, ha, Nat.zero_le _⟩
theorem MF (z : Bool) (a b : Nat) : mM (In.sp z a b) := by unfold In.sp; split <;> exact ⟨by simp, Int.natCast_nonneg _, Int.natCast_nonneg _, Nat.zero_le _⟩
theorem ON (n : Nat) : mM ⟨10, (n : Int) + 1, 0, 0, []⟩ := ⟨by simp, by show (0 : Int) ≤ (n : Int) + 1; omega, Int.le_refl _, Nat.zero_le _⟩
theorem gV {A B : List Iv} (hA : ∀ e, e ∈ A → mM e.1) (hB : ∀ e, e ∈ B → mM e.1) : ∀ e, e ∈ A ++ B → mM e.1 := fun e he => by rcases List.mem_append.1 he with h | h; exact hA e h; exact hB e h
theorem gB {x : Iv} (h : mM x.1) : ∀ e, e ∈ [x] → mM e.1 := fun e he => by rw [List.mem_singleton] at he; subst he; exact h
theorem xM {f : Nat → Iv → Iv} {new new' : List Iv} {js : List Nat} {n : Nat} (h : ∀ e, e ∈ new → mM e.1) (hl : new'.length = new.length) (hg : ∀ i (h : i < new.length), new'[i]? = some (if n + i ∈ js then f (n + i) new[i] else new[i])) (hf : ∀ p e, mM e.1 → mM (f p e).1) : ∀ e, e ∈ new' → mM e.1 := fun e he => by
  obtain ⟨i, hi, rfl⟩ := List.getElem_of_mem he
  have h1 := hg i (by omega)
  rw [List.getElem?_eq_getElem hi, Option.some.injEq] at h1
  rw [h1]
  have h2 := h _ (List.getElem_mem (show i < new.length by omega))
  split
  · exact hf _ _ h2
  · exact h2
theorem HP {es : List Iv} {k n : Nat} (h : es.length = n) : es.modify k (Iv.setOut (es.length : Nat)) = es.modify k (Iv.outTo n k) := by subst h; rfl
theorem CdAt.cast {w : World} {cb : Nat} {es es' : List Iv} {a : Option Addr} {c : Nat} {ob : Option Nat} {Z : List Nat} (h : CdAt w cb es a c ob Z) (e : es = es') : CdAt w cb es' a c ob Z := e ▸ h
theorem EK {w : World} {e : TypeId} {a : Option Addr} {n c : Nat} {ys : List Nat} {ob : Option Nat} (h : OwnS w e 1 a n c (ys.map fun p => iv (p : Nat)) ob) (h0 : 0 < n) : ∃ g, a = some ⟨g, 0, none⟩ ∧ ∀ k (hk : k < ys.length), w.cell? ⟨g, 0 + k * 1, none⟩ = some (iv (ys[k] : Nat)) := by
  obtain ⟨g, hg, ha, hc⟩ := h.cells h0
  refine ⟨g, ha, fun k hk => ?_⟩
  rw [Nat.mul_one]
  exact hc k _ (by simp [hk])
theorem CZ {l : List Rx} {j : Nat} (h : j < l.length) : iC (l.take j) + l[j].esz ≤ iC l := by
  rw [← sH h]
  have : ∀ (l : List Rx) (k : Nat), iC (l.take k) ≤ iC l := by
    intro l
    induction l with
    | nil => intro k; simp
    | cons x xs ih =>
      intro k
      cases k with
      | zero => rw [List.take_zero, iC]; exact Nat.zero_le _
      | succ k => rw [List.take_succ_cons, iC, iC]; have := ih k; omega
  exact this l (j + 1)
structure ChG where
  j : Nat
  new : List Iv
  pa : Option Addr
  pc : Nat
  po : Option Nat
  js : List Nat
  ja : Option Addr
  jc : Nat
  jo : Option Nat
structure ChI (w wr : World) (cb : Nat) (es : List Iv) (ob : Option Nat) (Z : List Nat) (ks : List Rx) (x : ChG) : Prop where
  j : x.j + 1 ≤ ks.length
  cd : CdAt wr cb (es ++ x.new) x.pa x.pc x.po (x.jo.toList ++ Z)
  po : x.po = ob ∨ ∃ g, x.po = some g ∧ w.heap.size ≤ g
  pre : AltPre (ks.take x.j) es.length (x.new.map (·.1)) x.js
  len : x.new.length ≤ iC (ks.take x.j) + 2 * x.j
  jl : x.js.length = x.j
  nice : ∀ e, e ∈ x.new → mM e.1
  jo : OwnS wr 3 1 x.ja x.j x.jc (x.js.map fun p => iv (p : Nat)) x.jo
  ap1 : Apart (some cb) x.jo
  ap2 : Apart x.po x.jo
  ge : Ge w x.jo
theorem ML {w1 wb : World} {jo jo2 : Option Nat} {Z : List Nat} {X : List Nat} (he : Evo X w1 wb) (h : jo2 = jo ∨ ∃ g, jo2 = some g ∧ wb.heap.size ≤ g) : ∀ z, z ∈ jo2.toList ++ Z → z ∈ jo.toList ++ Z ∨ w1.heap.size ≤ z := fun z hz => by
  rcases List.mem_append.1 hz with h1 | h1
  · rcases h with rfl | ⟨g, h2, h3⟩
    · left; exact List.mem_append_left _ h1
    · right; have := he.size; rw [h2] at h1; simp at h1; omega
  · left; exact List.mem_append_right _ h1
theorem ltZ {w w1 : World} {X : List Nat} {o : Option Nat} {Z : List Nat} (hZ : ∀ z, z ∈ Z → z < w.heap.size) (he : Evo X w w1) (ho : Lt w1 o) : ∀ z, z ∈ o.toList ++ Z → z < w1.heap.size := fun z hz => by
  rcases List.mem_append.1 hz with h | h
  · exact ho z (by simpa using h)
  · exact Nat.lt_of_lt_of_le (hZ z h) he.size
set_option maxHeartbeats 4000000 in
theorem GG {n : Nat} (ih : ∀ {w : World} {cb : Nat} {es : List Iv} {a : Option Addr} {c : Nat} {ob : Option Nat} {Z : List Nat} {vs : List Value} {t : Rx} (hC : CdAt w cb es a c ob Z) (hx : RRx n (cb :: ob.toList) w vs t) (hg : Good t) (hl : es.length + t.esz ≤ 100000) (hZ : ∀ z, z ∈ Z → z < w.heap.size), Calls Try.prog 22 #[.pointer (some ⟨cb, 0, none⟩), .agg vs.toArray] w (Ret fun v w' => v = .tuple #[] ∧ Evo (cb :: ob.toList) w w' ∧ ∃ new, HI w w' cb ob (es ++ new) Z ∧ gH t es.length (new.map (·.1)) ∧ new.length ≤ t.esz ∧ ∀ e, e ∈ new → mM e.1)) {w : World} {cb : Nat} {es : List Iv} {a : Option Addr} {c : Nat} {ob : Option Nat} {Z : List Nat} {vk : Value} {ks : List Rx} (hC : CdAt w cb es a c ob Z) (hk : RSl 9 (RRx n) (cb :: ob.toList) w vk ks) (hkl : 2 ≤ ks.length) (hkb : ks.length ≤ 140737488351232) (hg : ∀ k, k ∈ ks → Good k) (hl : es.length + (iC ks + 2 * (ks.length - 1)) ≤ 100000) (hZ : ∀ z, z ∈ Z → z < w.heap.size) : Calls Try.prog 32 #[.pointer (some ⟨cb, 0, none⟩), vk] w (Ret fun v w' => v = .tuple #[] ∧ Evo (cb :: ob.toList) w w' ∧ ∃ new, HI w w' cb ob (es ++ new) Z ∧ (∀ l, Has l es.length (new.map (·.1)) → qP l ks es.length (es.length + new.length)) ∧ new.length ≤ iC ks + 2 * (ks.length - 1) ∧ ∀ e, e ∈ new → mM e.1) := by
  have hXlt := hC.lt; obtain ⟨ka, kc, rfl, hkc, e1⟩ := hk; obtain ⟨bk, ok, vk0, rfl, -⟩ := id (e1 0 (by omega)); refine bE (N := 69) Try.func32 rfl rfl rfl ?_; refine csr (wan (aI (csr (aB (aB (aA (aZ rfl Try.underlying35 rfl) ?_)))))); refine aA (dJ rfl rfl (by omega) (by omega)) ?_; refine aA (JC (h := ks.length - 1) rfl rfl Try.underlying35 aU (by omega) (by omega) hkc) ?_; rw [addr0]; refine aA (aZ rfl Try.underlying35 rfl) ?_; refine aB (wnn (bJ ?_))
  refine dA (α := ChG) (⟨0, [], a, c, ob, [], none, 0, none⟩) (fun x => [(16, .int .i64 (x.j : Nat)), (4, .slice x.ja x.j x.jc)]) [(0, _), (1, _), (14, _), (15, _)] (fun x wr => Evo (cb :: ob.toList) w wr ∧ (ChI w wr cb es ob Z ks x)) (fun x => ks.length - x.j) ⟨rfl, rfl, trivial⟩ ⟨rfl, rfl, rfl, rfl, trivial⟩ ⟨(Evo.refl (cb :: ob.toList) w), ⟨by show 0 + 1 ≤ _; omega, by rw [List.append_nil]; exact hC.evo0 (Evo.refl [] w), .inl rfl, AltPre.nil _, Nat.zero_le _, rfl, (fun _ h => by cases h), OwnS.nil _ _ _, Apart.nil _, Apart.nil _, Ge.nil _⟩⟩ ?_
  rintro ⟨j, new, pa, pc, po, js, ja, jc, jo⟩ wr1 ⟨I, ⟨hj, hcd, hq, hpre, hlen, hjl, hnice, hjo, hap1, hap2, hge⟩⟩; show CW _ _ _ _ [(16, .int .i64 (j : Nat)), (4, .slice ja j jc), (0, _), (1, _), (14, _), (15, _)] _
  try dsimp only at hj hcd hq hpre hlen hjl hnice hjo hap1 hap2 hge
  have a8 := Evo.refl ([]) wr1
  have hAJN : Apart (some cb) po := fun g h1 h2 => by cases h1; exact hcd.ne cb h2 rfl
  refine csr (aA (cU rfl rfl) ?_); refine wnn (aI (aW rfl (fun d3 => ?_) (fun d3 => ?_)))
  ·have hj' : j < ks.length := by omega
   obtain ⟨_, _, vs1, ha1, hb1, hvl1, a9, hrk⟩ := e1 j hj'; cases ha1; obtain ⟨m1, ra1, rc1, ka1, kc1, rfl, rfl, -⟩ := id hrk.get; have hek := CZ hj'; have hsn : (es ++ new).length = es.length + new.length := List.length_append; refine aM (aC (aI (bJ (csr ?_)))); refine aA (cG (n := j) rfl rfl dV (by omega)) ?_; refine aA (cY rfl bZ aU (vs := [_, _, _, _, _, _, _, _, _]) rfl (a9.evo I hb1)) ?_; refine cL rfl eN fun b6 w4 d9 L b4 => ?_; have e0 := L; have d0 := Apart.new (Lt.blk hcd.blk) L; have d1 := Apart.new (Lt.own hcd.own) L; refine aV rfl rfl aU d9 rfl rfl ⟨by first | rfl | assumption, by first | rfl | assumption, by first | rfl | assumption, by first | rfl | assumption, by first | rfl | assumption, by first | rfl | assumption, by first | rfl | assumption, by first | rfl | assumption, by first | rfl | assumption, trivial⟩ fun f5 U V => ?_; have b5 := (I.then b4).step V (Ge.new I L).mem1; have b7 := (hjo.evo0 b4).evo V (Apart.new (Lt.own hjo) L).own1
   try simp only [cH, Nat.reduceAdd] at U
   refine wnn (csr (aB (aA (cC (vs := [(0, _)]) dQ rfl (cells := [_, _, _, _, _]) rfl) ?_)))
   refine aL (vs := [_, _]) eP rfl (jX (rs := []) (hcd.evo0 ((a8.then b4).step V (Ge.new a8 L).mem1)) lX (by rw [List.length_append]; omega)) rfl ?_
   rintro _ e2 ⟨rfl, a0, hto1⟩; have hlt_JS_1 := (Lt.own b7); have hlt_b6_1 := (Lt.blk U); have hev_1 := b5; have M := b5.step a0 (dT hq); have a1 := b7.evo a0 (uS hap1.symm hap2.symm); have a2 := a0.blk U (nK d0.symm d1.symm); obtain ⟨pa_1, pc_1, po_1, hC_1, hp_1⟩ := hto1; have hq_1 := dW hq hev_1 hp_1; have hA_JS_1 := fO hap2.symm hlt_JS_1 hp_1; have hA_b6_1 := fO d1.symm hlt_b6_1 hp_1
   have hAJN_1 : Apart (some cb) po_1 := fun g h1 h2 => by cases h1; exact hC_1.ne cb h2 rfl
   refine wan (csr (aB (aA (bW rfl bZ aU a2 rfl) ?_)))
   refine aL (vs := [_, _]) jJ rfl (ih (t := ks[j]) (hC_1.evo (Evo.refl jo.toList e2) hap1.nmem hA_JS_1.symm.own (fun y hy => List.mem_append_left _ hy) (fun z hz => .inl hz)) (RRx.step hrk M (dT hq_1) hXlt) (hg _ (List.getElem_mem hj')) (by have := hek; simp only [List.length_append, List.length_cons, List.length_nil]; omega) (ltZ hZ M (Lt.own a1))) rfl ?_
   rintro _ e3 ⟨-, a3, kx, hto2, hkx, hkl, hkn⟩; have hlt_JS_2 := (Lt.own a1); have hlt_b6_2 := (Lt.blk a2); have hev_2 := M; have b8 := M.step a3 (dT hq_1); have b9 := a1.evo a3 (uS hap1.symm hA_JS_1); obtain ⟨pa_2, pc_2, po_2, hC_2, hp_2⟩ := hto2; have hq_2 := dW hq_1 hev_2 hp_2; have hA_JS_2 := fO hA_JS_1 hlt_JS_2 hp_2
   have hAJN_2 : Apart (some cb) po_2 := fun g h1 h2 => by cases h1; exact hC_2.ne cb h2 rfl
   refine wnn (csr (aB (aB (aA (cC (vs := [(0, _)]) dQ rfl (cells := [_, _, _, _, _]) rfl) ?_))))
   refine aL (vs := [_, _]) eP rfl (jX (rs := []) (hC_2.evo (Evo.refl jo.toList e3) hap1.nmem hA_JS_2.symm.own (fun y hy => List.mem_append_left _ hy) (fun z hz => .inl hz)) lX (by have := hek; simp only [List.length_append, List.length_cons, List.length_nil]; omega)) rfl ?_
   rintro _ e4 ⟨rfl, c0, hto3⟩; have hlt_JS_3 := (Lt.own b9); have hlt_b6_3 := (Lt.blk (a3.blk a2 (nK d0.symm hA_b6_1))); have hev_3 := b8; obtain ⟨pa_3, pc_3, po_3, hC_3, hp_3⟩ := hto3; have hq_3 := dW hq_2 hev_3 hp_3; have hA_JS_3 := fO hA_JS_2 hlt_JS_3 hp_3
   have hAJN_3 : Apart (some cb) po_3 := fun g h1 h2 => by cases h1; exact hC_3.ne cb h2 rfl
   refine bM (vs := [_]) rfl rL rfl rfl rfl rfl fun f6 f7 d4 e9 H => ?_; have a4 := (b8.step c0 (dT hq_2)).then H; have c1 := (Evo.refl jo.toList e4).then H; have hev4 := a4; have hcd4 := c1; have hge4 := hge; refine cZ rfl rfl rfl rfl uJ ((b9.evo c0 (uS hap1.symm hA_JS_2)).evo0 H) (Src.ofOwn d4 ⟨by first | rfl | assumption, trivial⟩) (by omega) fun ja2 jc2 f8 jo2 e5 a5 hob67 => ?_; have c2 := hA_JS_3.symm.app (Lt.own (hC_3.own.evo0 H)) hob67; have hjo2 := hob67; refine wan ?_; refine fT (fun w0 w' => Evo po_3.toList w0 w') (by kernel_rfl) (fun B O => ?_); have d5 := (c1.step a5 (fun y hy => .inl hy)).then O; have c3 := O.blk0 (a5.blk (H.blk0 hC_3.blk) hap1.nmem); refine aet 0 rfl (fun _ hS => aX rfl) (Evo.refl po_3.toList B) ?_; refine aet 1 rfl (fun _ hS => aF rfl) (Evo.refl po_3.toList B) ?_; refine aet 2 rfl (fun _ hS => aS rfl fK (aY (hS.blk c3 (hAJN_3.nmem)) rfl)) (Evo.refl po_3.toList B) ?_; refine aet 3 rfl (fun _ hS => aX rfl) (Evo.refl po_3.toList B) ?_; refine aet 4 rfl (fun _ hS => aX rfl) (Evo.refl po_3.toList B) ?_; refine aet 5 rfl (fun _ hS => aK rfl rfl (by omega) (by omega)) (Evo.refl po_3.toList B) ?_
   refine aet 6 rfl (fun _ hS => aX rfl) (Evo.refl po_3.toList B) ?_; refine aet 7 rfl (fun _ hS => aF rfl) (Evo.refl po_3.toList B) ?_; refine aet 8 rfl (fun _ hS => aS rfl fK (aY (hS.blk c3 (hAJN_3.nmem)) rfl)) (Evo.refl po_3.toList B) ?_; refine aet 9 rfl (fun _ hS => aZ rfl Try.underlying65 rfl) (Evo.refl po_3.toList B) ?_; refine bV [10] (by kernel_rfl) rfl ⟨?_, trivial⟩; refine cA rfl ?_; have e6 := hC_3.evo d5 hap1.nmem hA_JS_3.symm.own (fun y hy => List.mem_append_left _ hy) (ML hcd4 hjo2)
   refine aL (vs := [_, _, _, _, _]) tL rfl (DW (k := (es ++ new).length) (e6.evo0 (Evo.refl [] B)) (by simp only [List.length_append, List.length_cons, List.length_nil]; omega)) rfl ?_
   rintro _ f9 ⟨rfl, a6, hT_5⟩; have d6 := ((a4.step a5 hge.mem).then O).step a6 (fun y hy => dT hq_3 y (List.mem_cons_of_mem _ hy)); have d7 := (e5.evo0 O).evo a6 (c2.symm.own); refine aQ (bO (.inl ((Evo.refl po_3.toList B).step a6 (fun y hy => .inl hy))) ?_); refine dH (by kernel_rfl) (aP (aC ?_)); refine aG ?_; refine aA (aK rfl rfl (by omega) (by omega)) ?_; refine aB (aQ (bA ?_)); refine ⟨⟨j + 1, new ++ ([(In.sp false (es.length + new.length + 1) (es.length + new.length + 1 + kx.length + 1), .slice none 0 0)] ++ (kx ++ [(⟨10, ((es.length + new.length + 1 + kx.length : Nat) : Int) + 1, 0, 0, []⟩, .slice none 0 0)])), pa_3, pc_3, po_3, js ++ [es.length + new.length + 1 + kx.length], ja2, jc2, jo2⟩, ?_, ⟨rfl, rfl, trivial⟩, ⟨rfl, rfl, rfl, rfl, trivial⟩, d6, ?_⟩
   · (try dsimp only); omega
   try dsimp only
   have hkx' : gH ks[j] (es.length + new.length + 1) (kx.map (·.1)) := by have h := hkx; rwa [List.length_append, List.length_append] at h
   have hs := hpre.snoc (x := ks[j]) (kx := kx.map (·.1)) (o := ((es.length + new.length + 1 + kx.length : Nat) : Int) + 1) (m' := es.length + new.length + 1 + kx.length) (by rw [List.length_map]; exact hkx') (by rw [List.length_map, List.length_map])
   rw [List.length_map] at hs; have hT := hT_5; rw [MK rfl] at hT
   refine ⟨by show j + 1 + 1 ≤ _; omega, hT.cast ?_, hq_3, ?_, ?_, ?_, ?_, ?_, (hap1.app (Lt.blk (H.blk0 hC_3.blk)) hob67), c2, (hge.app a4 hob67)⟩
   · rw [List.append_assoc]; refine congrArg (es ++ ·) (congrArg (new ++ ·) ?_)
     simp only [In.sp, List.length_append, List.length_cons, List.length_nil, List.singleton_append, Bool.false_eq_true, if_false]; push_cast; simp [Int.add_assoc, Nat.add_assoc]
   · show AltPre (ks.take (j + 1)) _ _ _
     rw [List.take_add_one, List.getElem?_eq_getElem hj']; rw [List.map_append, List.map_append, List.map_append]; exact hs
   · show _ ≤ iC (ks.take (j + 1)) + 2 * (j + 1)
     rw [sH hj']; simp only [List.length_append, List.length_cons, List.length_nil]; omega
   · show (js ++ [_]).length = j + 1; rw [List.length_append, hjl]; rfl
   · exact gV hnice (gV (gB (MF _ _ _)) (gV hkn (gB (ON _))))
   · have h : OwnS _ 3 1 ja2 (j + 1) jc2 (js.map (fun p => iv (p : Nat)) ++ [iv (((((es ++ new) ++ [_]) ++ kx).length : Nat))]) jo2 := d7
     simp only [List.length_append, List.length_cons, List.length_nil, Nat.zero_add] at h
     show OwnS _ 3 1 ja2 (j + 1) jc2 ((js ++ [_]).map _) jo2; rw [List.map_append]; exact h
  obtain rfl : j = ks.length - 1 := by omega
  have hj' : ks.length - 1 < ks.length := by omega
  obtain ⟨_, _, vs1, ha1, hb1, hvl1, a9, hrk⟩ := e1 (ks.length - 1) hj'; cases ha1; obtain ⟨m1, ra1, rc1, ka1, kc1, rfl, rfl, -⟩ := id hrk.get; have hek := CZ hj'; have hsn : (es ++ new).length = es.length + new.length := List.length_append; refine cN (bL (bL (cM (aC ?_)))); refine csr (aB (aB (aB (aA (aZ rfl Try.underlying35 rfl) ?_)))); refine aA (dJ rfl rfl (by omega) (by omega)) ?_; refine aA (fA (n := ks.length - 1) rfl rfl (by omega) dV (by omega)) ?_; refine aA (cY rfl bZ aU (vs := [_, _, _, _, _, _, _, _, _]) rfl (a9.evo I hb1)) ?_
  refine aL (vs := [_, _]) jJ rfl (ih (t := ks[ks.length - 1]) (hcd.evo0 a8) (RRx.step hrk I (dT hq) hXlt) (hg _ (List.getElem_mem hj')) (by have := hek; simp only [List.length_append]; omega) (ltZ hZ I (Lt.own hjo))) rfl ?_
  rintro _ e7 ⟨-, c4, kx, hto7, hkx, hkl, hkn⟩; have hlt_JS_7 := (Lt.own hjo); have hev_7 := I; obtain ⟨pa_7, pc_7, po_7, hC_7, hp_7⟩ := hto7; have hq_7 := dW hq hev_7 hp_7; have hA_JS_7 := fO hap2.symm hlt_JS_7 hp_7
  have hAJN_7 : Apart (some cb) po_7 := fun g h1 h2 => by cases h1; exact hC_7.ne cb h2 rfl
  refine wnn (csr (aB (aA (aZ rfl Try.underlying30 rfl) ?_))); refine aB (wnn (bJ ?_))
  refine dA (α := Nat) (0) (fun i => [(54, .int .i64 (i : Nat))]) [(0, _), (52, _), (53, _)] (fun i wr => Evo (cb :: ob.toList) w wr ∧ (i ≤ js.length ∧ CdAt wr cb (nE (Iv.outTo (es.length + new.length + kx.length)) (js.take i) (es ++ (new ++ kx))) pa_7 pc_7 po_7 (jo.toList ++ Z) ∧ OwnS wr 3 1 ja (ks.length - 1) jc (js.map fun p => iv (p : Nat)) jo)) (fun i => js.length - i) ⟨rfl, trivial⟩ ⟨rfl, rfl, rfl, trivial⟩ ⟨(I.step c4 (dT hq)), ⟨Nat.zero_le _, by rw [List.take_zero, ← List.append_assoc]; exact hC_7.evo0 (Evo.refl [] e7), (hjo.evo c4 (uS hap1.symm hap2.symm))⟩⟩ ?_
  rintro i wr98 ⟨c5, ⟨hi, hcd2, hjo2⟩⟩; show CW _ _ _ _ [(54, _), (0, _), (52, _), (53, _)] _
  have hpl : (nE (Iv.outTo (es.length + new.length + kx.length)) (js.take i) (es ++ (new ++ kx))).length = es.length + new.length + kx.length := by rw [pQ]; simp only [List.length_append]; omega
  refine csr (aA (cU rfl rfl) ?_); refine wnn (aI (aW rfl (fun d8 => ?_) (fun d8 => ?_)))
  ·have hi' : i < js.length := by omega
   have hat := hpre.at' js[i] (List.getElem_mem hi')
   rw [List.length_map] at hat; obtain ⟨gJ, haJ, hcJ⟩ := EK hjo2 (by omega); refine aM (aC (aI (bJ (csr ?_))))
   refine aA (cG (n := i) (by rw [haJ]; rfl) rfl dB (by omega)) ?_
   refine aA (aS rfl aT (hcJ i hi')) (wan ?_); refine fT (fun w0 w' => Evo po_7.toList w0 w') (by kernel_rfl) (fun A D => ?_); have J := hcd2.own.evo0 D; refine aet 0 rfl (fun _ hS => aX rfl) (Evo.refl po_7.toList A) ?_; refine aet 1 rfl (fun _ hS => aF rfl) (Evo.refl po_7.toList A) ?_; refine aet 2 rfl (fun _ hS => aS rfl fK (aY (hS.blk (D.blk0 hcd2.blk) (hAJN_7.nmem)) rfl)) (Evo.refl po_7.toList A) ?_; refine aet 3 rfl (fun _ hS => aX rfl) (Evo.refl po_7.toList A) ?_; refine aet 4 rfl (fun _ hS => aX rfl) (Evo.refl po_7.toList A) ?_; refine aet 5 rfl (fun _ hS => aF rfl) (Evo.refl po_7.toList A) ?_; refine aet 6 rfl (fun _ hS => aS rfl fK (aY (hS.blk (D.blk0 hcd2.blk) (hAJN_7.nmem)) rfl)) (Evo.refl po_7.toList A) ?_; refine aet 7 rfl (fun _ hS => aZ rfl Try.underlying65 rfl) (Evo.refl po_7.toList A) ?_; obtain ⟨gN, -, rfl, -⟩ := J.cells (by omega)
   have hjp : js[i] < (nE (Iv.outTo (es.length + new.length + kx.length)) (js.take i) (es ++ (new ++ kx))).length := by omega
   refine aet 8 rfl (fun _ hS => cG (n := js[i]) rfl rfl lR hjp) (Evo.refl po_7.toList A) ?_; refine aet 9 rfl (fun _ hS => aD rfl gX) (Evo.refl po_7.toList A) ?_; refine bV [10] (by kernel_rfl) rfl ⟨?_, trivial⟩; refine cA rfl ?_
   obtain ⟨g117, cur108, hg109, hx110, hcu111, hcs112, -⟩ := J.at (by omega)
   cases hx110; refine fW rfl rfl (rfl) bY hcu111 (J.inb hcs112 (k := js[i]) (j := 1) (by omega) (by omega) (by omega)) fun f0 c7 F => ?_; replace F := jQ hg109 F; have a7 := J.set' hg109 hcu111 c7; have c8 := (c5.then D).step F (fun y hy => dT hq_7 y (List.mem_cons_of_mem _ hy)); have c9 := ((Evo.refl (po_7.toList) wr98).then D).step F (fun y hy => .inl hy)
   rw [show 0 + js[i] * 5 + 1 = js[i] * 5 + 1 from by omega, oE (by rw [hpl]; omega), HP hpl] at a7
   refine aQ (bO (.inl ((Evo.refl po_7.toList A).step F (fun y hy => .inl hy))) ?_); refine dH (by kernel_rfl) (aP (aC ?_)); refine aG ?_; refine aA (aK rfl rfl (by omega) (by omega)) ?_; refine aB (aQ (bA ?_)); refine ⟨i + 1, ?_, ⟨rfl, trivial⟩, ⟨rfl, rfl, rfl, trivial⟩, c8, ?_⟩
   · omega
   refine ⟨by omega, ?_, ((hjo2.evo0 D).evo F hA_JS_7.own)⟩; rw [List.take_add_one, List.getElem?_eq_getElem hi']; have := hcd2.mod c9 a7 (fun _ => ⟨rfl, rfl⟩); rw [show (js.take i ++ (some js[i]).toList) = js.take i ++ [js[i]] from rfl, xE]; exact this
  refine cN (bL (bL (cM (eA rfl ?_)))); have hiE : js.take i = js := List.take_of_length_le (by omega); rw [hiE] at hcd2; have hatJ : ∀ p, p ∈ js → es.length ≤ p := fun p hp => (hpre.at' p hp).1; obtain ⟨new', e8, c6, d2⟩ := xD (f := Iv.outTo (es.length + new.length + kx.length)) (fun _ _ => rfl) (new := new ++ kx) hatJ; rw [e8] at hcd2
  have hnl : new'.length = new.length + kx.length := by rw [c6, List.length_append]
  have hkx' : gH ks[ks.length - 1] (es.length + new.length) (kx.map (·.1)) := by have h := hkx; rwa [List.length_append] at h
  have hks : ks = ks.take (ks.length - 1) ++ [ks[ks.length - 1]] := by rw [List.take_append_getElem, List.take_of_length_le (by omega)]
  refine ⟨rfl, c5, new', ⟨_, _, _, hcd2.evo (Evo.refl [] _) (by simp) (by simp) (by simp) (fun z hz => .inl (List.mem_append_right _ hz)), hq_7⟩, fun l hl => ?_, by omega, xM (gV hnice hkn) c6 d2 (fun p e h => ⟨h.1, Int.natCast_nonneg _, h.2.2⟩)⟩; have hp := RX (g := outTo (es.length + new.length + kx.length)) (fun _ _ => rfl) c6 d2 hl; rw [List.map_append] at hp
  have hd := hpre.done (x := ks[ks.length - 1]) (kx := kx.map (·.1)) (l := l) (by rw [List.length_map]; exact hkx') (by rw [List.length_map, List.length_map]; exact hp)
  rw [List.length_map, List.length_map, ← hks] at hd
  rw [hnl, ← Nat.add_assoc]; exact hd
structure RpG where
  k : Nat
  new : List Iv
  pa : Option Addr
  pc : Nat
  po : Option Nat
structure RpI (w wr : World) (cb : Nat) (es : List Iv) (ob : Option Nat) (Z : List Nat) (y : Rx) (b3 : Nat) (cs : Array Value) (k : Nat) (x : RpG) : Prop where
  cd : CdAt wr cb (es ++ x.new) x.pa x.pc x.po Z
  po : x.po = ob ∨ ∃ g, x.po = some g ∧ w.heap.size ≤ g
  pre : RepC [y] k es.length (x.new.map (·.1))
  len : x.new.length ≤ k * y.esz
  nice : ∀ e, e ∈ x.new → mM e.1
  bx : wr.heap[b3]? = some (.cells cs 37 (0, 0))
  a1 : Apart (some b3) (some cb)
  a2 : Apart (some b3) x.po
structure RkqG where
  j : Nat
  new2 : List Iv
  pa : Option Addr
  pc : Nat
  po : Option Nat
  js : List Nat
  ja : Option Addr
  jc : Nat
  jo : Option Nat
structure RkqI (w wr : World) (cb : Nat) (es new : List Iv) (ob : Option Nat) (Z : List Nat) (z : Bool) (y : Rx) (b3 : Nat) (cs : Array Value) (r : Nat) (x : RkqG) : Prop where
  j : x.j ≤ r
  cd : CdAt wr cb (es ++ (new ++ x.new2)) x.pa x.pc x.po (x.jo.toList ++ Z)
  po : x.po = ob ∨ ∃ g, x.po = some g ∧ w.heap.size ≤ g
  pre : OptPre z y x.j (es.length + new.length) (x.new2.map (·.1)) x.js
  len : x.new2.length ≤ x.j * (y.esz + 1)
  jl : x.js.length = x.j
  nice : ∀ e, e ∈ x.new2 → mM e.1
  jo : OwnS wr 3 1 x.ja x.j x.jc (x.js.map fun p => iv (p : Nat)) x.jo
  ap1 : Apart (some cb) x.jo
  ap2 : Apart x.po x.jo
  ge : Ge w x.jo
  bx : wr.heap[b3]? = some (.cells cs 37 (0, 0))
  a1 : Apart (some b3) (some cb)
  a2 : Apart (some b3) x.po
  a3 : Apart (some b3) x.jo
theorem AB {l : List Rx} (h : l.length = 1) : l = [l[0]] := by
  apply List.ext_getElem
  · simp [h]
  · intro i h1 h2
    have : i = 0 := by omega
    subst this
    rfl
theorem DV {w : World} {cb : Nat} {es : List Iv} {a : Option Addr} {c k m : Nat} {ob : Option Nat} {Z : List Nat} {i o : Int} {z : Bool} (h : CdAt w cb es a c ob Z) (hm : m = es.length) (hk : k < es.length) :
    Calls Try.prog 38 #[.slice a m c, .int .i64 (k : Nat), .int .i64 i, .int .i64 o, .bool z] w (Ret fun v w' => v = .tuple #[] ∧ Evo ob.toList w w' ∧ CdAt w' cb (es.modify k (fun e => (⟨e.1.op, if z then o else i, if z then i else o, e.1.arg, e.1.rs⟩, e.2))) a c ob Z) := by
  subst hm; exact DW h hk
theorem QJ {es : List Iv} {k n : Nat} {z : Bool} (h : es.length = n) : es.modify k (fun e => (⟨e.1.op, if z then ((es.length : Nat) : Int) else (k : Int) + 1, if z then (k : Int) + 1 else ((es.length : Nat) : Int), e.1.arg, e.1.rs⟩, e.2)) = es.modify k (Iv.turnTo z n k) := by subst h; rfl
theorem TM {A : List Iv} {y : Iv} {f : Iv → Iv} {k : Nat} (hk : k = A.length) : (A ++ [y]).modify k f = A ++ [f y] := by
  subst hk
  induction A with
  | nil => simp [List.modify]
  | cons a A ih => rw [List.cons_append, List.length_cons, lK, ih]; rfl
theorem vK {k m e : Nat} (h : k < m) : k * e + e ≤ m * e := by rw [← Nat.succ_mul]; exact Nat.mul_le_mul_right _ h
set_option maxHeartbeats 8000000 in
theorem EC {n : Nat} (ih : ∀ {w : World} {cb : Nat} {es : List Iv} {a : Option Addr} {c : Nat} {ob : Option Nat} {Z : List Nat} {vs : List Value} {t : Rx} (hC : CdAt w cb es a c ob Z) (hx : RRx n (cb :: ob.toList) w vs t) (hg : Good t) (hl : es.length + t.esz ≤ 100000) (hZ : ∀ z, z ∈ Z → z < w.heap.size), Calls Try.prog 22 #[.pointer (some ⟨cb, 0, none⟩), .agg vs.toArray] w (Ret fun v w' => v = .tuple #[] ∧ Evo (cb :: ob.toList) w w' ∧ ∃ new, HI w w' cb ob (es ++ new) Z ∧ gH t es.length (new.map (·.1)) ∧ new.length ≤ t.esz ∧ ∀ e, e ∈ new → mM e.1)) {w : World} {cb : Nat} {es : List Iv} {a : Option Addr} {c : Nat} {ob : Option Nat} {Z : List Nat} {vs : List Value} {t : Rx} (hC : CdAt w cb es a c ob Z) (hx : RRx (n + 1) (cb :: ob.toList) w vs t) (hg : Good t) (hl : es.length + t.esz ≤ 100000) (hZ : ∀ z, z ∈ Z → z < w.heap.size) (h6 : t.kind = 6) : Calls Try.prog 33 #[.pointer (some ⟨cb, 0, none⟩), .agg vs.toArray] w (Ret fun v w' => v = .tuple #[] ∧ Evo (cb :: ob.toList) w w' ∧ ∃ new, HI w w' cb ob (es ++ new) Z ∧ gH t es.length (new.map (·.1)) ∧ new.length ≤ t.esz ∧ ∀ e, e ∈ new → mM e.1) := by
  have hXlt := hC.lt; have hx0 := hx; obtain ⟨m, ra, rc, ka, kc, hm, rfl, hrg, hk, bl1, bl2, bl3⟩ := hx.get
  obtain rfl : m = n := by omega
  obtain ⟨_, _, hke, hkc, e1⟩ := hk; cases hke; have hn := (mW t).1 hg.node
  have hkl : t.kids.length = 1 := by have := hn.rep4 h6; omega
  have hj' : 0 < t.kids.length := by omega
  have hky : t.kids = [t.kids[0]] := AB hkl; obtain ⟨bk, ok, vs1, rfl, hb1, hvl1, a6, hrk⟩ := e1 0 hj'; obtain ⟨m1, ra1, rc1, ka1, kc1, rfl, rfl, -⟩ := id hrk.get; have he1 := FW hkl; have hr1 := hn.rep1 h6; have hr2 := hn.rep2 h6; have hr3 := hn.rep3 h6
  have hrs : t.esz = (if t.max = -1 then t.min.toNat * t.kids[0].esz + t.kids[0].esz + 2 else t.min.toNat * t.kids[0].esz + (t.max - t.min).toNat * (t.kids[0].esz + 1)) := by
    rw [Rx.esz_eq, if_neg (by omega), if_neg (by omega), if_neg (by omega), if_pos h6, he1]
  refine bE (N := 106) Try.func33 rfl rfl rfl ?_; refine csr (gD rfl rfl fun b3 w1 d4 a7 d5 => ?_); have f0 := a7; have f5 := Apart.new (Lt.blk hC.blk) a7; have f6 := Apart.new (Lt.own hC.own) a7; refine wnn (aI (mK (α := RpG) (fun x => []) [(0, _), (3, _)] (fun x wr => Evo (cb :: ob.toList) w wr ∧ (RpI w wr cb es ob Z t.kids[0] b3 #[iv t.kind, .int .i32 t.r, .slice ra t.ranges.length rc, iv t.min, iv t.max, .bool t.lazy, iv t.cap, .string t.name, .slice (some ⟨bk, ok, none⟩) t.kids.length kc] t.min.toNat x)) ⟨rfl, rfl, trivial⟩ ?_ ?_))
  ·refine csr (wfl rfl eK rfl aT d4 rfl (aB (wnn (bJ ?_))))
   refine dA (α := RpG) (⟨0, [], a, c, ob⟩) (fun x => [(12, .int .i64 (x.k : Nat))]) [(0, _), (3, _), (11, _)] (fun x wr => Evo (cb :: ob.toList) w wr ∧ (x.k ≤ t.min.toNat ∧ RpI w wr cb es ob Z t.kids[0] b3 #[iv t.kind, .int .i32 t.r, .slice ra t.ranges.length rc, iv t.min, iv t.max, .bool t.lazy, iv t.cap, .string t.name, .slice (some ⟨bk, ok, none⟩) t.kids.length kc] x.k x)) (fun x => t.min.toNat - x.k) ⟨rfl, trivial⟩ ⟨rfl, rfl, rfl, trivial⟩ ⟨((Evo.refl (cb :: ob.toList) w).then d5), ⟨Nat.zero_le _, by rw [List.append_nil]; exact hC.evo0 ((Evo.refl [] w).then d5), .inl rfl, RepC.nil _ _, Nat.zero_le _, (fun _ h => by cases h), d4, f5.symm, f6.symm⟩⟩ ?_
   rintro ⟨k, new, pa, pc, po⟩ wr13 ⟨F, ⟨hk, hcd, hq, hpre, hlen, hnice, hb3, ha1, ha2⟩⟩; show CW _ _ _ _ [(12, .int .i64 (k : Nat)), (0, _), (3, _), (11, _)] _
   try dsimp only at hk hcd hq hpre hlen hnice hb3 ha1 ha2
   have hAJN : Apart (some cb) po := fun g h1 h2 => by cases h1; exact hcd.ne cb h2 rfl
   refine csr (aA (cU rfl rfl) ?_); refine wnn (aI (aW rfl (fun d9 => ?_) (fun d9 => ?_)))
   ·have hkm : k < t.min.toNat := by omega
    have hms := vK (e := t.kids[0].esz) hkm
    have hsz : es.length + t.min.toNat * t.kids[0].esz ≤ 100000 := by split at hrs <;> omega
    refine aM (aC (aI (bJ (csr (aB (aA (aF rfl) (aA (aS rfl fK (aY hcd.blk rfl)) (aA (aZ rfl Try.underlying65 rfl) ?_)))))))); refine wan (csr (aB (wfl rfl eU rfl gR hb3 rfl ?_))); refine aA (fA (n := 0) rfl rfl rfl dV (by omega)) ?_; refine aA (cY rfl bZ aU (vs := [_, _, _, _, _, _, _, _, _]) rfl (a6.evo F hb1)) ?_; have hZw : ∀ z, z ∈ Z → z < (wr13).heap.size := fun z hz => Nat.lt_of_lt_of_le (hZ z hz) (F).size
    refine aL (vs := [_, _]) jJ rfl (ih (t := t.kids[0]) (hcd.evo0 (Evo.refl [] wr13)) (RRx.step hrk F (dT hq) hXlt) (hg.kid _ (List.getElem_mem hj')) (by simp only [List.length_append]; omega) hZw) rfl ?_
    rintro _ d6 ⟨-, a8, kx1, hto1, hkx1, hkl1, hkn1⟩; have hlt_b3_1 := (Lt.blk hb3); have hev_1 := F; have a9 := F.step a8 (dT hq); have b4 := a8.blk hb3 (nK ha1 ha2); obtain ⟨pa_1, pc_1, po_1, hC_1, hp_1⟩ := hto1; have hq_1 := dW hq hev_1 hp_1; have hA_b3_1 := fO ha2 hlt_b3_1 hp_1
    have hAJN_1 : Apart (some cb) po_1 := fun g h1 h2 => by cases h1; exact hC_1.ne cb h2 rfl
    refine wnn (csr (aB (aA (aF rfl) (aA (aS rfl fK (aY hC_1.blk rfl)) (aA (aZ rfl Try.underlying65 rfl) ?_))))); refine aB (wel ?_); refine wnn (aW rfl (fun b5 => ?_) (fun b5 => ?_))
    ·refine cN (sF rfl (bL (bL (cM (bA ?_))))); refine ⟨⟨k, new ++ kx1, pa_1, pc_1, po_1⟩, trivial, ⟨rfl, rfl, trivial⟩, a9, ?_⟩
     obtain rfl : kx1 = [] := List.length_eq_zero_iff.1 (by simp only [List.length_append] at b5; omega)
     have hx' : gH t.kids[0] (es.length + (new.map (·.1)).length) [] := by rw [List.length_map]; have h := hkx1; rwa [List.length_append] at h
     have hs := hpre.stop hx' (t.min.toNat - k); rw [show k + (t.min.toNat - k) = t.min.toNat from by omega] at hs
     refine ⟨(hC_1.evo0 (Evo.refl [] d6)).cast (by simp), hq_1, by rw [List.append_nil]; exact hs, ?_, by rw [List.append_nil]; exact hnice, b4, ha1, hA_b3_1⟩
     rw [List.append_nil]; show new.length ≤ _; omega
    refine aM (aP (aC (aG ?_))); refine aA (aK rfl rfl (by omega) (by omega)) ?_; refine aB (aQ (bA ?_)); refine ⟨⟨k + 1, new ++ kx1, pa_1, pc_1, po_1⟩, ?_, ⟨rfl, trivial⟩, ⟨rfl, rfl, rfl, trivial⟩, a9, ?_⟩
    · (try dsimp only); omega
    try dsimp only
    have hx' : gH t.kids[0] (es.length + (new.map (·.1)).length) (kx1.map (·.1)) := by rw [List.length_map]; have h := hkx1; rwa [List.length_append] at h
    refine ⟨by omega, (hC_1.evo0 (Evo.refl [] d6)).cast (List.append_assoc ..), hq_1, ?_, ?_, gV hnice hkn1, b4, ha1, hA_b3_1⟩
    · rw [List.map_append]; exact hpre.snoc hx'
    · rw [List.length_append, Nat.succ_mul]; omega
   refine cN (bL (bL (cM (bA ?_)))); refine ⟨⟨k, new, pa, pc, po⟩, trivial, ⟨rfl, rfl, trivial⟩, F, ?_⟩
   obtain rfl : k = t.min.toNat := by omega
   exact ⟨hcd.evo0 (Evo.refl [] wr13), hq, hpre, hlen, hnice, hb3, ha1, ha2⟩
  rintro ⟨k, new, pa, pc, po⟩ d7 ⟨V, ⟨hcd, hq, hpre, hlen, hnice, hb3, ha1, ha2⟩⟩; refine aC ?_; show CW _ _ _ _ [(0, _), (3, _)] _
  try dsimp only at hcd hq hpre hlen hnice hb3 ha1 ha2
  have hAJN : Apart (some cb) po := fun g h1 h2 => by cases h1; exact hcd.ne cb h2 rfl
  refine aI (csr (wfl rfl fL rfl aT hb3 rfl (aA (cU rfl rfl) ?_))); refine wnn (aW rfl (fun e0 => ?_) (fun e0 => ?_))
  ·have hmx : t.max = -1 := by omega
   rw [if_pos hmx] at hrs; have hsn : (es ++ new).length = es.length + new.length := List.length_append; refine csr (aB (aA (cC (vs := [(0, _)]) dQ rfl (cells := [_, _, _, _, _]) rfl) ?_))
   refine aL (vs := [_, _]) eP rfl (jX (rs := []) (hcd.evo0 (Evo.refl [] d7)) lX (by simp only [List.length_append]; omega)) rfl ?_
   rintro _ d8 ⟨rfl, b6, hto1⟩; have hlt_b3_1 := (Lt.blk hb3); have hev_1 := V; have L := V.step b6 (dT hq); have a0 := b6.blk hb3 (nK ha1 ha2); obtain ⟨pa_1, pc_1, po_1, hC_1, hp_1⟩ := hto1; have hq_1 := dW hq hev_1 hp_1; have hA_b3_1 := fO ha2 hlt_b3_1 hp_1
   have hAJN_1 : Apart (some cb) po_1 := fun g h1 h2 => by cases h1; exact hC_1.ne cb h2 rfl
   refine wan (csr (aB (wfl rfl eU rfl gR a0 rfl ?_))); refine aA (fA (n := 0) rfl rfl rfl dV (by omega)) ?_; refine aA (cY rfl bZ aU (vs := [_, _, _, _, _, _, _, _, _]) rfl (a6.evo L hb1)) ?_; have hZw : ∀ z, z ∈ Z → z < (d8).heap.size := fun z hz => Nat.lt_of_lt_of_le (hZ z hz) (L).size
   refine aL (vs := [_, _]) jJ rfl (ih (t := t.kids[0]) (hC_1.evo0 (Evo.refl [] d8)) (RRx.step hrk L (dT hq_1) hXlt) (hg.kid _ (List.getElem_mem hj')) (by simp only [List.length_append, List.length_cons, List.length_nil]; omega) hZw) rfl ?_
   rintro _ f7 ⟨-, b7, kx2, hto2, hkx2, hkl2, hkn2⟩; have hlt_b3_2 := (Lt.blk a0); have hev_2 := L; have b8 := L.step b7 (dT hq_1); have b9 := b7.blk a0 (nK ha1 hA_b3_1); obtain ⟨pa_2, pc_2, po_2, hC_2, hp_2⟩ := hto2; have hq_2 := dW hq_1 hev_2 hp_2; have hA_b3_2 := fO hA_b3_1 hlt_b3_2 hp_2
   have hAJN_2 : Apart (some cb) po_2 := fun g h1 h2 => by cases h1; exact hC_2.ne cb h2 rfl
   refine wnn (csr (aB (aA (cC (vs := [(0, _)]) dQ rfl (cells := [_, _, _, _, _]) rfl) ?_)))
   refine aL (vs := [_, _]) eP rfl (jX (rs := []) (hC_2.evo0 (Evo.refl [] f7)) lX (by simp only [List.length_append, List.length_cons, List.length_nil]; omega)) rfl ?_
   rintro _ f8 ⟨rfl, c0, hto3⟩; have hlt_b3_3 := (Lt.blk b9); have hev_3 := b8; obtain ⟨pa_3, pc_3, po_3, hC_3, hp_3⟩ := hto3; have hq_3 := dW hq_2 hev_3 hp_3; have hA_b3_3 := fO hA_b3_2 hlt_b3_3 hp_3
   have hAJN_3 : Apart (some cb) po_3 := fun g h1 h2 => by cases h1; exact hC_3.ne cb h2 rfl
   refine wan (csr (aB (aA (aF rfl) (aA (aS rfl fK (aY hC_3.blk rfl)) (aB (aB ?_))))))
   obtain ⟨gN, -, rfl, -⟩ := hC_3.own.cells (by simp only [List.length_append, List.length_cons, List.length_nil]; omega)
   have hjp : (es ++ new ++ [((⟨3, ((es ++ new).length : Nat) + 1, 0, 0, []⟩ : In), Value.slice none 0 0)] ++ kx2).length < (es ++ new ++ [((⟨3, ((es ++ new).length : Nat) + 1, 0, 0, []⟩ : In), Value.slice none 0 0)] ++ kx2 ++ [((⟨10, ((es ++ new ++ [((⟨3, ((es ++ new).length : Nat) + 1, 0, 0, []⟩ : In), Value.slice none 0 0)] ++ kx2).length : Nat) + 1, 0, 0, []⟩ : In), Value.slice none 0 0)]).length := by simp only [List.length_append, List.length_cons, List.length_nil]; omega
   refine aA (cG (n := (es ++ new ++ [((⟨3, ((es ++ new).length : Nat) + 1, 0, 0, []⟩ : In), Value.slice none 0 0)] ++ kx2).length) rfl rfl lR hjp) ?_; refine aA (aD rfl gX) ?_; have hcd9 := (Evo.refl [] f8)
   obtain ⟨g42, cur33, hg34, hx35, hcu36, hcs37, -⟩ := hC_3.own.at (by omega)
   cases hx35; refine fW rfl rfl (rfl) bY hcu36 (hC_3.own.inb hcs37 (k := (es ++ new ++ [((⟨3, ((es ++ new).length : Nat) + 1, 0, 0, []⟩ : In), Value.slice none 0 0)] ++ kx2).length) (j := 1) (by omega) (by omega) (by omega)) fun f9 e2 H => ?_; replace H := jQ hg34 H; have c1 := hC_3.own.set' hg34 hcu36 e2; have e3 := (b8.step c0 (dT hq_2)).step H (fun y hy => dT hq_3 y (List.mem_cons_of_mem _ hy)); rw [show 0 + (es ++ new ++ [((⟨3, ((es ++ new).length : Nat) + 1, 0, 0, []⟩ : In), Value.slice none 0 0)] ++ kx2).length * 5 + 1 = (es ++ new ++ [((⟨3, ((es ++ new).length : Nat) + 1, 0, 0, []⟩ : In), Value.slice none 0 0)] ++ kx2).length * 5 + 1 from by omega, oE hjp] at c1; have hC_9 := hC_3.evo0 hcd9; have hC_8 := hC_9.mod H c1 (fun _ => ⟨rfl, rfl⟩); refine wnn (aI ?_); refine fT (fun w0 w' => Evo po_3.toList w0 w') (by kernel_rfl) (fun B O => ?_); have c2 := O.blk0 (H.blk hC_3.blk hAJN_3.nmem); refine aet 0 rfl (fun _ hS => aX rfl) (Evo.refl po_3.toList B) ?_; refine aet 1 rfl (fun _ hS => aF rfl) (Evo.refl po_3.toList B) ?_; refine aet 2 rfl (fun _ hS => aS rfl fK (aY (hS.blk c2 (hAJN_3.nmem)) rfl)) (Evo.refl po_3.toList B) ?_; refine aet 3 rfl (fun _ hS => aX rfl) (Evo.refl po_3.toList B) ?_; refine aet 4 rfl (fun _ hS => aX rfl) (Evo.refl po_3.toList B) ?_
   refine aet 5 rfl (fun _ hS => aK rfl rfl (by omega) (by omega)) (Evo.refl po_3.toList B) ?_; refine aet 6 rfl (fun _ hS => aX rfl) (Evo.refl po_3.toList B) ?_; refine aet 7 rfl (fun _ hS => aF rfl) (Evo.refl po_3.toList B) ?_; refine aet 8 rfl (fun _ hS => aS rfl fK (aY (hS.blk c2 (hAJN_3.nmem)) rfl)) (Evo.refl po_3.toList B) ?_; refine aet 9 rfl (fun _ hS => aZ rfl Try.underlying65 rfl) (Evo.refl po_3.toList B) ?_; refine aet 10 rfl (fun _ hS => aD rfl mI) (Evo.refl po_3.toList B) ?_; refine aet 11 rfl (fun _ hS => aS rfl hD (aY (hS.blk (O.blk0 (H.blk (c0.blk b9 (nK ha1 hA_b3_2)) hA_b3_3.nmem)) (hA_b3_3.nmem)) rfl)) (Evo.refl po_3.toList B) ?_; refine bV [12] (by kernel_rfl) rfl ⟨?_, trivial⟩; refine cA rfl ?_
   refine aL (vs := [_, _, _, _, _]) tL rfl (DV (k := (es ++ new).length) (hC_8.evo0 ((Evo.refl [] f9).then O)) (by rw [List.length_modify]) (by rw [List.length_modify]; simp only [List.length_append, List.length_cons, List.length_nil]; omega)) rfl ?_
   rintro _ g0 ⟨rfl, c3, hT_4⟩; have e4 := (e3.then O).step c3 (fun y hy => dT hq_3 y (List.mem_cons_of_mem _ hy)); refine aQ (bO (.inl ((Evo.refl po_3.toList B).step c3 (fun y hy => .inl hy))) ?_); refine dH (by kernel_rfl) (aC ?_); refine aH (aE (BK rfl ?_))
   have hx' : gH t.kids[0] (es.length + new.length + 1) (kx2.map (·.1)) := by have h := hkx2; rwa [List.length_append, List.length_append] at h
   have hT := hT_4.evo0 (Evo.refl [] g0); rw [TM rfl, MK rfl] at hT; refine ⟨rfl, e4, new ++ ([(In.sp t.lazy (es.length + new.length + 1) (es.length + new.length + 1 + kx2.length + 1), .slice none 0 0)] ++ (kx2 ++ [(⟨10, ((es.length + new.length : Nat) : Int), 0, 0, []⟩, .slice none 0 0)])), ⟨_, _, _, hT.cast ?_, hq_3⟩, ?_, ?_, ?_⟩
   · rw [List.append_assoc]; refine congrArg (es ++ ·) (congrArg (new ++ ·) ?_)
     cases t.lazy <;> (simp only [Iv.setOut, In.sp, List.length_append, List.length_cons, List.length_nil, List.singleton_append, Bool.false_eq_true, if_false, if_true]; push_cast; simp [Int.add_assoc, Nat.add_assoc])
   · rw [List.map_append, List.map_append, List.map_append]
     have h := JG (a := es.length) (k := new.map (·.1)) (kx := kx2.map (·.1)) h6 hky hmx hpre (by rw [List.length_map]; exact hx')
     rw [List.length_map, List.length_map] at h; exact h
   · simp only [List.length_append, List.length_cons, List.length_nil]; omega
   · exact gV hnice (gV (gB (MF _ _ _)) (gV hkn2 (gB ⟨by simp, Int.natCast_nonneg _, Int.le_refl _, Nat.zero_le _⟩)))
  have hmx : ¬ t.max = -1 := by omega
  rw [if_neg hmx] at hrs; have hpre0 := hpre; obtain ⟨r, hr⟩ : ∃ r, r = (t.max - t.min).toNat := ⟨_, rfl⟩; rw [← hr] at hrs; refine aM (aC (csr (wan (aI (csr (wfl rfl fL rfl aT hb3 rfl (wfl rfl eK rfl aT hb3 rfl ?_))))))); refine aA (dJ rfl rfl (by omega) (by omega)) ?_; refine aB (wnn (bJ ?_))
  refine dA (α := RkqG) (⟨0, [], pa, pc, po, [], none, 0, none⟩) (fun x => [(71, .int .i64 (x.j : Nat)), (7, .slice x.ja x.j x.jc)]) [(0, _), (3, _), (70, _)] (fun x wr => Evo (cb :: ob.toList) w wr ∧ (RkqI w wr cb es new ob Z t.lazy t.kids[0] b3 #[iv t.kind, .int .i32 t.r, .slice ra t.ranges.length rc, iv t.min, iv t.max, .bool t.lazy, iv t.cap, .string t.name, .slice (some ⟨bk, ok, none⟩) t.kids.length kc] r x)) (fun x => r - x.j) ⟨rfl, rfl, trivial⟩ ⟨rfl, rfl, rfl, trivial⟩ ⟨V, ⟨Nat.zero_le _, by rw [List.append_nil]; exact hcd.evo0 (Evo.refl [] d7), hq, OptPre.nil _ _ _, Nat.zero_le _, rfl, (fun _ h => by cases h), OwnS.nil _ _ _, Apart.nil _, Apart.nil _, Ge.nil _, hb3, ha1, ha2, Apart.nil _⟩⟩ ?_
  rintro ⟨j, new2, pa, pc, po, js, ja, jc, jo⟩ wr60 ⟨a1, ⟨hj, hcd, hq, hpre, hlen2, hjl, hnice2, hjo, hap1, hap2, hge, hb3, ha1, ha2, ha3⟩⟩; show CW _ _ _ _ [(71, .int .i64 (j : Nat)), (7, .slice ja j jc), (0, _), (3, _), (70, _)] _
  try dsimp only at hj hcd hq hpre hlen2 hjl hnice2 hjo hap1 hap2 hge hb3 ha1 ha2 ha3
  have hAJN : Apart (some cb) po := fun g h1 h2 => by cases h1; exact hcd.ne cb h2 rfl
  refine csr (aA (cU rfl rfl) ?_); refine wnn (aI (aW rfl (fun e5 => ?_) (fun e5 => ?_)))
  ·have hjr : j < r := by omega
   have hms := vK (e := t.kids[0].esz + 1) hjr; refine aM (aC (aI (bJ (csr (aB (aB (aA (cC (vs := [(0, _)]) dQ rfl (cells := [_, _, _, _, _]) rfl) ?_)))))))
   refine aL (vs := [_, _]) eP rfl (jX (rs := []) (hcd.evo0 (Evo.refl [] wr60)) lX (by simp only [List.length_append]; omega)) rfl ?_
   rintro _ g1 ⟨rfl, a2, hto5⟩; have hlt_b3_5 := (Lt.blk hb3); have hlt_JS_5 := (Lt.own hjo); have hev_5 := a1; obtain ⟨pa_5, pc_5, po_5, hC_5, hp_5⟩ := hto5; have hq_5 := dW hq hev_5 hp_5; have hA_b3_5 := fO ha2 hlt_b3_5 hp_5; have hA_JS_5 := fO hap2.symm hlt_JS_5 hp_5
   have hAJN_5 : Apart (some cb) po_5 := fun g h1 h2 => by cases h1; exact hC_5.ne cb h2 rfl
   refine bM (vs := [_]) rfl rL rfl rfl rfl rfl fun g7 g8 e6 g5 I => ?_; have c4 := (a1.step a2 (dT hq)).then I; have c5 := (Evo.refl jo.toList g1).then I; have c6 := I.blk0 (a2.blk hb3 (nK ha1 ha2)); have hcd4 := c5; refine cZ rfl rfl rfl rfl uJ ((hjo.evo a2 (uS hap1.symm hap2.symm)).evo0 I) (Src.ofOwn e6 ⟨by first | rfl | assumption, trivial⟩) (by omega) fun ja2 jc2 g2 jo2 c7 a3 hob90 => ?_; have c8 := hap1.app (Lt.blk (I.blk0 hC_5.blk)) hob90; have c9 := hA_JS_5.symm.app (Lt.own (hC_5.own.evo0 I)) hob90; have M := c4.step a3 hge.mem; have e7 := c5.step a3 (fun y hy => .inl hy); have a4 := a3.blk c6 ha3.nmem; have hjo2 := hob90; have g3 := hC_5.evo e7 hap1.nmem hA_JS_5.symm.own (fun y hy => List.mem_append_left _ hy) (ML hcd4 hjo2); refine wan (aG (aB (wfl rfl eU rfl gR a4 rfl ?_))); refine aA (fA (n := 0) rfl rfl rfl dV (by omega)) ?_; refine aA (cY rfl bZ aU (vs := [_, _, _, _, _, _, _, _, _]) rfl (a6.evo M hb1)) ?_
   refine aL (vs := [_, _]) jJ rfl (ih (t := t.kids[0]) (g3.evo0 (Evo.refl [] g2)) (RRx.step hrk M (dT hq_5) hXlt) (hg.kid _ (List.getElem_mem hj')) (by simp only [List.length_append, List.length_cons, List.length_nil]; omega) (ltZ hZ M (Lt.own c7))) rfl ?_
   rintro _ g6 ⟨-, U, kx6, hto6, hkx6, hkl6, hkn6⟩; have hlt_b3_6 := (Lt.blk a4); have hlt_jo2_6 := (Lt.own c7); have hev_6 := M; have d2 := c7.evo U (uS c8.symm c9.symm); obtain ⟨pa_6, pc_6, po_6, hC_6, hp_6⟩ := hto6; have hq_6 := dW hq_5 hev_6 hp_6; have hA_b3_6 := fO hA_b3_5 hlt_b3_6 hp_6; have hA_jo2_6 := fO c9.symm hlt_jo2_6 hp_6
   have hAJN_6 : Apart (some cb) po_6 := fun g h1 h2 => by cases h1; exact hC_6.ne cb h2 rfl
   refine aQ (aP (aC (aG ?_))); refine aA (aK rfl rfl (by omega) (by omega)) ?_; refine aB (aQ (bA ?_)); refine ⟨⟨j + 1, new2 ++ ([(⟨3, ((es ++ (new ++ new2)).length : Nat) + 1, 0, 0, []⟩, .slice none 0 0)] ++ kx6), pa_6, pc_6, po_6, js ++ [(es ++ (new ++ new2)).length], ja2, jc2, jo2⟩, ?_, ⟨rfl, rfl, trivial⟩, ⟨rfl, rfl, rfl, trivial⟩, (M.step U (dT hq_5)), ?_⟩
   · (try dsimp only); omega
   try dsimp only
   have hm : (es ++ (new ++ new2)).length = es.length + new.length + (new2.map (·.1)).length := by simp only [List.length_append, List.length_map]; omega
   have hx' : gH t.kids[0] ((es ++ (new ++ new2)).length + 1) (kx6.map (·.1)) := by have h := hkx6; rwa [List.length_append] at h
   have hs := hpre.snoc (o := ((es ++ (new ++ new2)).length : Nat) + 1) (al := 0) hm hx'
   refine ⟨by show j + 1 ≤ r; omega, hC_6.cast (by simp), hq_6, ?_, ?_, ?_, gV hnice2 (gV (gB (IL _ _ (by omega) (Int.le_refl _))) hkn6), ?_, c8, hA_jo2_6.symm, (hge.app c4 hob90), (U.blk a4 (nK ha1 hA_b3_5)), ha1, hA_b3_6, (ha3.app (Lt.blk c6) hob90)⟩
   · show OptPre _ _ (j + 1) _ _ _; rw [List.map_append, List.map_append]; exact hs
   · show _ ≤ (j + 1) * (t.kids[0].esz + 1); rw [Nat.succ_mul]; simp only [List.length_append, List.length_cons, List.length_nil]; omega
   · show (js ++ [_]).length = j + 1; rw [List.length_append, hjl]; rfl
   · have h : OwnS _ 3 1 ja2 (j + 1) jc2 (js.map (fun p => iv (p : Nat)) ++ [iv ((es ++ (new ++ new2)).length : Nat)]) jo2 := d2
     show OwnS _ 3 1 ja2 (j + 1) jc2 ((js ++ [_]).map _) jo2; rw [List.map_append]; exact h
  have hjr : j = r := by omega
  subst hjr; refine cN (bL (bL (cM (aC ?_)))); refine csr (aB (aA (aZ rfl Try.underlying30 rfl) ?_)); refine aB (wnn (bJ ?_))
  refine dA (α := Nat) (0) (fun i => [(88, .int .i64 (i : Nat))]) [(0, _), (3, _), (86, _), (87, _)] (fun i wr => Evo (cb :: ob.toList) w wr ∧ (i ≤ js.length ∧ CdAt wr cb (nE (Iv.turnTo t.lazy (es.length + new.length + new2.length)) (js.take i) (es ++ (new ++ new2))) pa pc po (jo.toList ++ Z) ∧ OwnS wr 3 1 ja j jc (js.map fun p => iv (p : Nat)) jo ∧ wr.heap[b3]? = some (.cells #[iv t.kind, .int .i32 t.r, .slice ra t.ranges.length rc, iv t.min, iv t.max, .bool t.lazy, iv t.cap, .string t.name, .slice (some ⟨bk, ok, none⟩) t.kids.length kc] 37 (0, 0)))) (fun i => js.length - i) ⟨rfl, trivial⟩ ⟨rfl, rfl, rfl, rfl, trivial⟩ ⟨a1, ⟨Nat.zero_le _, by rw [List.take_zero]; exact hcd.evo0 (Evo.refl [] wr60), hjo, hb3⟩⟩ ?_
  rintro i wr107 ⟨a5, ⟨hi, hcd2, hjo2, hb32⟩⟩; show CW _ _ _ _ [(88, _), (0, _), (3, _), (86, _), (87, _)] _
  have hpl : (nE (Iv.turnTo t.lazy (es.length + new.length + new2.length)) (js.take i) (es ++ (new ++ new2))).length = es.length + new.length + new2.length := by rw [pQ]; simp only [List.length_append]; omega
  refine csr (aA (cU rfl rfl) ?_); refine wnn (aI (aW rfl (fun e8 => ?_) (fun e8 => ?_)))
  ·have hi' : i < js.length := by omega
   have hat := hpre.at' js[i] (List.getElem_mem hi')
   rw [List.length_map] at hat; obtain ⟨gJ, haJ, hcJ⟩ := EK hjo2 (by omega); refine aM (aC (aI (bJ (csr ?_))))
   refine aA (cG (n := i) (by rw [haJ]; rfl) rfl dB (by omega)) ?_
   refine aA (aS rfl aT (hcJ i hi')) (wan ?_); refine fT (fun w0 w' => Evo po.toList w0 w') (by kernel_rfl) (fun A D => ?_); refine aet 0 rfl (fun _ hS => aX rfl) (Evo.refl po.toList A) ?_; refine aet 1 rfl (fun _ hS => aF rfl) (Evo.refl po.toList A) ?_; refine aet 2 rfl (fun _ hS => aS rfl fK (aY (hS.blk (D.blk0 hcd2.blk) (hAJN.nmem)) rfl)) (Evo.refl po.toList A) ?_; refine aet 3 rfl (fun _ hS => aX rfl) (Evo.refl po.toList A) ?_; refine aet 4 rfl (fun _ hS => aX rfl) (Evo.refl po.toList A) ?_; refine aet 5 rfl (fun _ hS => aK rfl rfl (by omega) (by omega)) (Evo.refl po.toList A) ?_; refine aet 6 rfl (fun _ hS => aX rfl) (Evo.refl po.toList A) ?_; refine aet 7 rfl (fun _ hS => aF rfl) (Evo.refl po.toList A) ?_; refine aet 8 rfl (fun _ hS => aS rfl fK (aY (hS.blk (D.blk0 hcd2.blk) (hAJN.nmem)) rfl)) (Evo.refl po.toList A) ?_; refine aet 9 rfl (fun _ hS => aZ rfl Try.underlying65 rfl) (Evo.refl po.toList A) ?_
   refine aet 10 rfl (fun _ hS => aD rfl mI) (Evo.refl po.toList A) ?_; refine aet 11 rfl (fun _ hS => aS rfl hD (aY (hS.blk (D.blk0 hb32) (ha2.nmem)) rfl)) (Evo.refl po.toList A) ?_; refine bV [12] (by kernel_rfl) rfl ⟨?_, trivial⟩; refine cA rfl ?_
   refine aL (vs := [_, _, _, _, _]) tL rfl (DV (k := js[i]) (hcd2.evo0 ((Evo.refl [] wr107).then D)) (rfl) (by rw [hpl]; omega)) rfl ?_
   rintro _ e9 ⟨rfl, J, hT_7⟩; have d3 := (a5.then D).step J (fun y hy => dT hq y (List.mem_cons_of_mem _ hy)); refine aQ (bO (.inl ((Evo.refl po.toList A).step J (fun y hy => .inl hy))) ?_); refine dH (by kernel_rfl) (aP (aC ?_)); refine aG ?_; refine aA (aK rfl rfl (by omega) (by omega)) ?_; refine aB (aQ (bA ?_)); refine ⟨i + 1, ?_, ⟨rfl, trivial⟩, ⟨rfl, rfl, rfl, rfl, trivial⟩, d3, ?_⟩
   · omega
   refine ⟨by omega, ?_, ((hjo2.evo0 D).evo J (hap2.symm.own)), (J.blk (D.blk0 hb32) (ha2.nmem))⟩; rw [List.take_add_one, List.getElem?_eq_getElem hi']; have h := hT_7.evo0 (Evo.refl [] e9); rw [QJ hpl] at h; rw [show (js.take i ++ (some js[i]).toList) = js.take i ++ [js[i]] from rfl, xE]; exact h
  refine cN (bL (bL (cM (eA rfl ?_)))); have hiE : js.take i = js := List.take_of_length_le (by omega); rw [hiE] at hcd2
  have hatJ : ∀ p, p ∈ js → (es ++ new).length ≤ p := fun p hp => by have := (hpre.at' p hp).1; rw [List.length_append]; exact this
  rw [← List.append_assoc] at hcd2; obtain ⟨new', g4, d0, d1⟩ := xD (f := Iv.turnTo t.lazy (es.length + new.length + new2.length)) (fun p e => rfl) (new := new2) hatJ; rw [g4, List.append_assoc] at hcd2; rw [List.length_append] at d1
  refine ⟨rfl, a5, new ++ new', ⟨_, _, _, hcd2.evo (Evo.refl [] _) (by simp) (by simp) (by simp) (fun z hz => .inl (List.mem_append_right _ hz)), hq⟩, ?_, ?_, gV hnice (xM hnice2 d0 d1 (fun p e h => ⟨h.1, by show (0 : Int) ≤ (if t.lazy then _ else _); split <;> omega, by show (0 : Int) ≤ (if t.lazy then _ else _); split <;> omega, h.2.2.2⟩))⟩
  · rw [List.map_append]
    refine PH (a := es.length) (k := new.map (·.1)) (kp := new'.map (·.1)) (kx := new2.map (·.1)) (js := js) (r := j) h6 hky hmx hpre0 hr (by rw [List.length_map]; exact hpre) (by rw [List.length_map, List.length_map]; exact d0) (fun l hl => ?_)
    rw [List.length_map] at hl ⊢; rw [List.length_map]; exact RX (g := turnTo t.lazy (es.length + new.length + new2.length)) (fun _ _ => rfl) d0 d1 hl
  · simp only [List.length_append]; omega
theorem KT : dY Try.prog 28 := ⟨_, Try.func28, by kernel_rfl, by kernel_rfl⟩
theorem zC : dY Try.prog 29 := ⟨_, Try.func29, by kernel_rfl, by kernel_rfl⟩
theorem NM {E s e : Int} (he : e = E + 2) (hs : s = min E 10001) : min (s + 2) 10001 = min e 10001 := by subst he hs; omega
theorem jA (a b : Int) : (if b < a then b else a) = min a b := by omega
theorem QM {a b : Nat} {s r : Int} (hs : s = min (a : Int) 10001) (hr : r = min (b : Int) 10001) : min (s + r) 10001 = min (((a + b : Nat) : Int)) 10001 := by subst hs hr; omega
set_option maxHeartbeats 4000000 in
theorem NW {n : Nat} (ih : ∀ {X : List Nat} {w : World} {vs : List Value} {t : Rx} (hx : RRx n X w vs t) (hg : Good t), Calls Try.prog 29 #[.agg vs.toArray] w (Ret fun v w' => v = .int .i64 (min (t.esz : Int) 10001) ∧ Evo [] w w')) {X : List Nat} {w : World} {vs : List Value} {t : Rx} (hx : RRx (n + 1) X w vs t) (hg : Good t) : Calls Try.prog 29 #[.agg vs.toArray] w (Ret fun v w' => v = .int .i64 (min (t.esz : Int) 10001) ∧ Evo [] w w') := by
  have hx0 := hx; obtain ⟨m, ra, rc, ka, kc, hm, rfl, hrg, hk, bl1, bl2, bl3⟩ := hx.get
  obtain rfl : m = n := by omega
  obtain ⟨_, _, hke, hkc, e1⟩ := hk; cases hke; have hn := (mW t).1 hg.node; refine bE (N := 64) Try.func29 rfl rfl rfl ?_; refine csr (gD rfl rfl fun b1 w2 V a8 a6 => ?_); refine wan (csr (wan (aI (csr (wfl rfl eU rfl gR V rfl (aA (aZ rfl Try.underlying35 rfl) ?_)))))); refine aB (wnn (bJ ?_))
  refine dA (α := Nat × Int) ((0, 0)) (fun x => [(3, .int .i64 x.2), (9, .int .i64 (x.1 : Nat))]) [(1, _), (2, _), (7, _), (8, _)] (fun x wr => Evo [] w2 wr ∧ (x.1 ≤ t.kids.length ∧ x.2 = min (iC (t.kids.take x.1) : Int) 10001)) (fun x => t.kids.length - x.1) ⟨rfl, rfl, trivial⟩ ⟨rfl, rfl, rfl, rfl, trivial⟩ ⟨Evo.refl _ _, ⟨Nat.zero_le _, by simp only [List.take_zero]; rfl⟩⟩ ?_
  rintro ⟨j, s⟩ wr8 ⟨L, ⟨hj, hs⟩⟩; show CW _ _ _ _ [(3, .int .i64 s), (9, .int .i64 (j : Nat)), (1, _), (2, _), (7, _), (8, _)] _
  try dsimp only at hj hs
  have A := ((Evo.refl [] w).then a6).then L; have B := L.blk0 V; refine csr (aA (cU rfl rfl) ?_); refine wnn (aI (aW rfl (fun a2 => ?_) (fun a2 => ?_)))
  ·have hj' : j < t.kids.length := by omega
   obtain ⟨b1, o1, vs1, ha1, hb1, hvl1, a7, hrk⟩ := e1 j hj'; obtain ⟨m1, ra1, rc1, ka1, kc1, rfl, rfl, -⟩ := id hrk.get; refine aM (aC (aI (bJ (csr ?_))))
   refine aA (cG (n := j) (by rw [ha1]; rfl) rfl dV (by omega)) ?_
   refine aA (cY rfl bZ aU (vs := [_, _, _, _, _, _, _, _, _]) rfl (a7.evo A (by simp))) ?_; refine cL rfl eN fun a9 b4 a3 M O => ?_; refine aV rfl rfl aU a3 rfl rfl ⟨by first | rfl | assumption, by first | rfl | assumption, by first | rfl | assumption, by first | rfl | assumption, by first | rfl | assumption, by first | rfl | assumption, by first | rfl | assumption, by first | rfl | assumption, by first | rfl | assumption, trivial⟩ fun b5 a4 U => ?_; refine wnn (aG (aB (aA (bW rfl bZ aU a4 rfl) ?_))); refine aL (vs := [_]) zC rfl (ih (RRx.pers _ _ _ _ _ _ (((A.then O).step U (Ge.new A M).mem1).mono (fun b hb => by cases hb)) hrk) (hg.kid _ (List.getElem_mem hj'))) rfl ?_; rintro _ b6 ⟨rfl, a5⟩; refine aA (aK rfl rfl (by omega) (by omega)) ?_; refine aA (iW rfl rfl) ?_; refine bX (aQ (aP (aC (aG ?_)))); refine aA (aK rfl rfl (by omega) (by omega)) ?_; refine aB (aQ (bA ?_)); refine ⟨(j + 1, if 10001 < s + min (t.kids[j].esz : Int) 10001 then 10001 else s + min (t.kids[j].esz : Int) 10001), ?_, ⟨rfl, rfl, trivial⟩, ⟨rfl, rfl, rfl, rfl, trivial⟩, (((L.then O).step U (Ge.new L M).mem1).then a5), ?_⟩
   · (try dsimp only); omega
   try dsimp only
   exact ⟨by omega, by rw [sH hj', jA]; exact QM hs rfl⟩
  have hall : s = min (iC t.kids : Int) 10001 := by rw [hs, List.take_of_length_le (by omega)]
  have a0 : 0 ≤ s := by omega
  have a1 : s ≤ 10001 := by omega
  refine cN (bL (bL (cM (aC ?_)))); refine aI (csr (wfl rfl jL rfl aT B rfl (wnn (bJ (aI (csr (wel ?_))))))); refine wan (aW rfl (fun D => ?_) (fun D => ?_))
  ·refine aM (aC (aW rfl (fun D => ?_) (fun D => ?_)))
   ·refine aM (aP (aC (csr (aB (aA (iW rfl rfl) ?_))))); refine wan (aH (br1 ?_)); refine ⟨congrArg (Value.int .i64) ?_, A⟩; rw [jA]
    first | (rw [esz1 (by omega), hall]; have hk0 : t.kids = [] := hg.node.leaf (by unfold rU; omega); rw [hk0]; rfl) | (rw [esz4 (by omega), hall]; omega)
   refine csr (wel ?_); refine wan (aW rfl (fun F => ?_) (fun F => ?_))
   ·have h52 := hn.two (by omega); refine aG (aB (wfl rfl eU rfl gR B rfl (aA (aZ rfl Try.underlying35 rfl) ?_))); refine aA (dJ rfl rfl (by omega) (by omega)) ?_; refine aA (fD rfl rfl (by omega) (by omega)) ?_; refine aA (aK rfl rfl (by omega) (by omega)) ?_; refine bX (aQ (aP (aC (csr (aB (aA (iW rfl rfl) ?_)))))); refine wan (aH (br1 ?_)); refine ⟨congrArg (Value.int .i64) ?_, A⟩; rw [jA]
    rw [esz5 (by omega) (by omega), hall]; omega
   refine csr (wel ?_); refine wan (aW rfl (fun H => ?_) (fun H => ?_))
   ·refine aG (aB ?_); refine aA (aK rfl rfl (by omega) (by omega)) ?_; refine bX (aQ (aP (aC (csr (aB (aA (iW rfl rfl) ?_)))))); refine wan (aH (br1 ?_)); refine ⟨congrArg (Value.int .i64) ?_, A⟩; rw [jA]; exact NM (esz7 (by omega)) hall
   refine csr (wel ?_); refine wan (aW rfl (fun I => ?_) (fun I => ?_))
   ·have h6 := hn.rep1 (by omega); have h62 := hn.rep2 (by omega); have h63 := hn.rep3 (by omega); have hmu := CJ h6 h62 a0 a1; refine csr (wfl rfl fL rfl aT B rfl (aA (cU rfl rfl) ?_)); refine wnn (aW rfl (fun J => ?_) (fun J => ?_))
    ·refine aG (wfl rfl eK rfl aT B rfl (aB ?_)); refine aA (fD rfl rfl (by omega) (by omega)) ?_; refine aB ?_; refine aA (aK rfl rfl (by omega) (by omega)) ?_; refine aA (aK rfl rfl (by omega) (by omega)) ?_; refine bX (aQ (aP (aC (csr (aB (aA (iW rfl rfl) ?_)))))); refine wan (aH (br1 ?_)); refine ⟨congrArg (Value.int .i64) ?_, A⟩; rw [jA]
     rw [esz6a (by omega) h6 (by omega), hall]; exact GI h6 (Int.natCast_nonneg _)
    have hmv := CJ (show 0 ≤ t.max - t.min by omega) (show t.max - t.min ≤ 1000 by omega) (show 0 ≤ s + 1 by omega) (show s + 1 ≤ 10002 by omega); refine aG (wfl rfl eK rfl aT B rfl (aB ?_)); refine aA (fD rfl rfl (by omega) (by omega)) ?_; refine wfl rfl fL rfl aT B rfl (wfl rfl eK rfl aT B rfl ?_); refine aA (dJ rfl rfl (by omega) (by omega)) ?_; refine aB ?_; refine aA (aK rfl rfl (by omega) (by omega)) ?_; refine aA (fD rfl rfl (by omega) (by omega)) ?_; refine aA (aK rfl rfl (by omega) (by omega)) ?_; refine bX (aQ (aP (aC (csr (aB (aA (iW rfl rfl) ?_)))))); refine wan (aH (br1 ?_)); refine ⟨congrArg (Value.int .i64) ?_, A⟩; rw [jA]
    rw [esz6b (by omega) h6 (by omega), hall]; exact GH h6 (by omega) (Int.natCast_nonneg _)
   refine aG (bX (aQ (aP (aC (csr (aB (aA (iW rfl rfl) ?_))))))); refine wan (aH (br1 ?_)); refine ⟨congrArg (Value.int .i64) ?_, A⟩; rw [jA]; rw [yC (by omega)]
  refine aG (wel ?_); refine wan (aW rfl (fun D => ?_) (fun D => ?_))
  ·refine aM (aP (aC (csr (aB (aA (iW rfl rfl) ?_))))); refine wan (aH (br1 ?_)); refine ⟨congrArg (Value.int .i64) ?_, A⟩; rw [jA]
   first | (rw [esz1 (by omega), hall]; have hk0 : t.kids = [] := hg.node.leaf (by unfold rU; omega); rw [hk0]; rfl) | (rw [esz4 (by omega), hall]; omega)
  refine csr (wel ?_); refine wan (aW rfl (fun F => ?_) (fun F => ?_))
  ·have h52 := hn.two (by omega); refine aG (aB (wfl rfl eU rfl gR B rfl (aA (aZ rfl Try.underlying35 rfl) ?_))); refine aA (dJ rfl rfl (by omega) (by omega)) ?_; refine aA (fD rfl rfl (by omega) (by omega)) ?_; refine aA (aK rfl rfl (by omega) (by omega)) ?_; refine bX (aQ (aP (aC (csr (aB (aA (iW rfl rfl) ?_)))))); refine wan (aH (br1 ?_)); refine ⟨congrArg (Value.int .i64) ?_, A⟩; rw [jA]
   rw [esz5 (by omega) (by omega), hall]; omega
  refine csr (wel ?_); refine wan (aW rfl (fun H => ?_) (fun H => ?_))
  ·refine aG (aB ?_); refine aA (aK rfl rfl (by omega) (by omega)) ?_; refine bX (aQ (aP (aC (csr (aB (aA (iW rfl rfl) ?_)))))); refine wan (aH (br1 ?_)); refine ⟨congrArg (Value.int .i64) ?_, A⟩; rw [jA]; exact NM (esz7 (by omega)) hall
  refine csr (wel ?_); refine wan (aW rfl (fun I => ?_) (fun I => ?_))
  ·have h6 := hn.rep1 (by omega); have h62 := hn.rep2 (by omega); have h63 := hn.rep3 (by omega); have hmu := CJ h6 h62 a0 a1; refine csr (wfl rfl fL rfl aT B rfl (aA (cU rfl rfl) ?_)); refine wnn (aW rfl (fun J => ?_) (fun J => ?_))
   ·refine aG (wfl rfl eK rfl aT B rfl (aB ?_)); refine aA (fD rfl rfl (by omega) (by omega)) ?_; refine aB ?_; refine aA (aK rfl rfl (by omega) (by omega)) ?_; refine aA (aK rfl rfl (by omega) (by omega)) ?_; refine bX (aQ (aP (aC (csr (aB (aA (iW rfl rfl) ?_)))))); refine wan (aH (br1 ?_)); refine ⟨congrArg (Value.int .i64) ?_, A⟩; rw [jA]
    rw [esz6a (by omega) h6 (by omega), hall]; exact GI h6 (Int.natCast_nonneg _)
   have hmv := CJ (show 0 ≤ t.max - t.min by omega) (show t.max - t.min ≤ 1000 by omega) (show 0 ≤ s + 1 by omega) (show s + 1 ≤ 10002 by omega); refine aG (wfl rfl eK rfl aT B rfl (aB ?_)); refine aA (fD rfl rfl (by omega) (by omega)) ?_; refine wfl rfl fL rfl aT B rfl (wfl rfl eK rfl aT B rfl ?_); refine aA (dJ rfl rfl (by omega) (by omega)) ?_; refine aB ?_; refine aA (aK rfl rfl (by omega) (by omega)) ?_; refine aA (fD rfl rfl (by omega) (by omega)) ?_; refine aA (aK rfl rfl (by omega) (by omega)) ?_; refine bX (aQ (aP (aC (csr (aB (aA (iW rfl rfl) ?_)))))); refine wan (aH (br1 ?_)); refine ⟨congrArg (Value.int .i64) ?_, A⟩; rw [jA]
   rw [esz6b (by omega) h6 (by omega), hall]; exact GH h6 (by omega) (Int.natCast_nonneg _)
  refine aG (bX (aQ (aP (aC (csr (aB (aA (iW rfl rfl) ?_))))))); refine wan (aH (br1 ?_)); refine ⟨congrArg (Value.int .i64) ?_, A⟩; rw [jA]; rw [yC (by omega)]
theorem LJ : ∀ {n : Nat} {X : List Nat} {w : World} {vs : List Value} {t : Rx} (hx : RRx n X w vs t) (hg : Good t), Calls Try.prog 29 #[.agg vs.toArray] w (Ret fun v w' => v = .int .i64 (min (t.esz : Int) 10001) ∧ Evo [] w w')
  | 0, X, w, vs, t, hx, hg => hx.elim
  | n + 1, X, w, vs, t, hx, hg => NW (n := n) (fun hx hg => LJ hx hg) hx hg
def SizeIs (t : Rx) (r : Int) : Prop := (t.Ok → r = min ((t.esz : Int) + 1) 10001) ∧ (¬ t.Ok → r = 0)
theorem cap_one (e : Int) : min (min e 10001 + 1) 10001 = min (e + 1) 10001 := by omega
theorem Size_ok {n : Nat} {w : World} {vs : List Value} {t : Rx} (hx : RRx n [] w vs t) : Calls Try.prog 21 #[.agg vs.toArray] w (Ret fun v w' => ∃ r, v = .int .i64 r ∧ SizeIs t r ∧ Evo [] w w') := by
  have hx0 := hx; obtain ⟨m, ra, rc, ka, kc, hm, rfl, hrg, hk, bl1, bl2, bl3⟩ := hx.get; refine bE (N := 10) Try.func21 rfl rfl rfl ?_; refine csr (gD rfl rfl fun b1 w2 D L J => ?_); have F := (Evo.refl [] w).then J; refine wan (aI (csr (aA (bW rfl bZ aU D rfl) (aL (vs := [_]) KT rfl (QE (RRx.pers _ _ _ _ _ _ F hx0)) rfl ?_)))); rintro _ w8 ⟨r, rfl, hr, H⟩; have A := F.then H; refine aA (dR rfl) ?_; refine wnn (fG rfl (fun B => ?_) (fun B => ?_))
  ·refine csr (wan (aH (aE (br1 ?_))))
   exact ⟨0, rfl, ⟨fun h => (by rw [hr.2 h] at B; cases B), fun _ => rfl⟩, A⟩
  have hok : t.Ok := hr.1 (by simpa using B); refine aM (aC (csr (aA (bW rfl bZ aU (H.blk0 D) rfl) (aL (vs := [_]) zC rfl (LJ (RRx.pers _ _ _ _ _ _ A hx0) hok.good) rfl ?_)))); rintro _ M ⟨rfl, I⟩; refine aA (aK rfl rfl (by omega) (by omega)) ?_; refine aA (iW rfl rfl) ?_; refine wan (aH (br1 ?_))
  exact ⟨_, rfl, ⟨fun _ => by rw [jA]; exact cap_one _, fun h => (h hok).elim⟩, (A.then I)⟩
theorem kQ : kT Try.prog 43 = some true := by kernel_rfl
theorem rT : Build Try.prog 43 #[(0, 1), (1, 1), (2, 1), (3, 1)] #[.slice none 0 0, .int .i64 0, .int .i64 0, .slice none 0 0] := ⟨_, .agg #[.slice none 0 0, .int .i64 0, .int .i64 0, .slice none 0 0], Try.underlying43, by kernel_rfl, rfl, fun w => by kernel_rfl⟩
theorem kN : Build Try.prog 78 #[(0, 1), (1, 1)] #[.int .i32 0, .int .i32 0] := ⟨_, .agg #[.int .i32 0, .int .i32 0], Try.underlying78, by kernel_rfl, rfl, fun w => by kernel_rfl⟩
theorem KV : dY Try.prog 21 := ⟨_, Try.func21, by kernel_rfl, by kernel_rfl⟩
theorem KU : dY Try.prog 23 := ⟨_, Try.func23, by kernel_rfl, by kernel_rfl⟩
theorem tM : dY Try.prog 31 := ⟨_, Try.func31, by kernel_rfl, by kernel_rfl⟩
theorem KS : dY Try.prog 32 := ⟨_, Try.func32, by kernel_rfl, by kernel_rfl⟩
theorem KQ : dY Try.prog 33 := ⟨_, Try.func33, by kernel_rfl, by kernel_rfl⟩
theorem fZ : fQ Try.prog 43 = some 4 := by kernel_rfl
theorem yQ : mN Try.prog 43 = some #[.slice none 0 0, .int .i64 0, .int .i64 0, .slice none 0 0] := by kernel_rfl
theorem JN : mN Try.prog 65 = some #[.slice none 0 0] := by kernel_rfl
structure CtI (w wr : World) (cb : Nat) (es : List Iv) (ob : Option Nat) (Z : List Nat) (ks : List Rx) (x : RpG) : Prop where
  j : x.k ≤ ks.length
  cd : CdAt wr cb (es ++ x.new) x.pa x.pc x.po Z
  po : x.po = ob ∨ ∃ g, x.po = some g ∧ w.heap.size ≤ g
  pre : CatC (ks.take x.k) es.length (x.new.map (·.1))
  len : x.new.length ≤ iC (ks.take x.k)
  nice : ∀ e, e ∈ x.new → mM e.1
theorem RangesOk.low {l : List (Int × Int)} (h : RangesOk l) : ∀ i (hi : i < l.length), 2 * (i : Int) ≤ l[i].1
  | 0, hi => by have := (h.1 0 hi).1; omega
  | i + 1, hi => by
    have h1 := h.low i (by omega)
    have h2 := h.1 i (by omega)
    have h3 := (h.1 (i + 1) hi).2.2.2 i (by omega) rfl
    omega
theorem RangesOk.len {l : List (Int × Int)} (h : RangesOk l) : l.length ≤ 1048576 := by
  by_cases e : l.length = 0
  · omega
  · have h1 := h.low (l.length - 1) (by omega)
    have h2 := h.1 (l.length - 1) (by omega)
    omega
theorem rows_rr (X : List Nat) (w : World) (a b : Int) : RowsOk 2 RRg X w [[.int .i32 a, .int .i32 b]] [(a, b)] := by
  refine ⟨rfl, fun k hk hk' => ?_⟩
  simp at hk
  subst hk
  exact ⟨rfl, rfl⟩
theorem MM {w w1 : World} {cb : Nat} {es : List Iv} {a : Option Addr} {c : Nat} {ob : Option Nat} {Z X : List Nat} (h : CdAt w cb es a c ob Z) (hZ : ∀ z, z ∈ Z → z < w.heap.size) (he : Evo X w w1) : ∀ z, z ∈ cb :: (ob.toList ++ Z) → z < w1.heap.size := fun z hz => by
  rw [← List.cons_append] at hz
  rcases List.mem_append.1 hz with h1 | h1
  · exact Nat.lt_of_lt_of_le (h.lt z h1) he.size
  · exact Nat.lt_of_lt_of_le (hZ z h1) he.size
set_option maxHeartbeats 8000000 in
theorem PO {n : Nat} (ih : ∀ {w : World} {cb : Nat} {es : List Iv} {a : Option Addr} {c : Nat} {ob : Option Nat} {Z : List Nat} {vs : List Value} {t : Rx} (hC : CdAt w cb es a c ob Z) (hx : RRx n (cb :: ob.toList) w vs t) (hg : Good t) (hl : es.length + t.esz ≤ 100000) (hZ : ∀ z, z ∈ Z → z < w.heap.size), Calls Try.prog 22 #[.pointer (some ⟨cb, 0, none⟩), .agg vs.toArray] w (Ret fun v w' => v = .tuple #[] ∧ Evo (cb :: ob.toList) w w' ∧ ∃ new, HI w w' cb ob (es ++ new) Z ∧ gH t es.length (new.map (·.1)) ∧ new.length ≤ t.esz ∧ ∀ e, e ∈ new → mM e.1)) {w : World} {cb : Nat} {es : List Iv} {a : Option Addr} {c : Nat} {ob : Option Nat} {Z : List Nat} {vs : List Value} {t : Rx} (hC : CdAt w cb es a c ob Z) (hx : RRx (n + 1) (cb :: ob.toList) w vs t) (hg : Good t) (hl : es.length + t.esz ≤ 100000) (hZ : ∀ z, z ∈ Z → z < w.heap.size) : Calls Try.prog 22 #[.pointer (some ⟨cb, 0, none⟩), .agg vs.toArray] w (Ret fun v w' => v = .tuple #[] ∧ Evo (cb :: ob.toList) w w' ∧ ∃ new, HI w w' cb ob (es ++ new) Z ∧ gH t es.length (new.map (·.1)) ∧ new.length ≤ t.esz ∧ ∀ e, e ∈ new → mM e.1) := by
  have hXlt := hC.lt; have hx0 := hx; obtain ⟨m, ra, rc, ka, kc, hm, rfl, hrg, hk, bl1, bl2, bl3⟩ := hx.get
  obtain rfl : m = n := by omega
  have hk0 := hk; obtain ⟨_, _, hke, hkc, e1⟩ := hk; cases hke; have hn := (mW t).1 hg.node; have hcap := hg.capb
  have a4 : Apart (some cb) ob := fun g h1 h2 => by cases h1; exact hC.ne cb h2 rfl
  have hmZ : ∀ b, b ∈ cb :: ob.toList → b ∈ cb :: (ob.toList ++ Z) := fun b hb => by rw [← List.cons_append]; exact List.mem_append_left _ hb
  refine bE (N := 114) Try.func22 rfl rfl rfl ?_; refine csr (gD rfl rfl fun b3 w1 B a9 V => ?_); have i5 := a9; have e7 := Apart.new (Lt.blk hC.blk) a9; have F := Apart.new (Lt.own hC.own) a9; have A := (Evo.refl (cb :: ob.toList) w).then V; have D := (Evo.refl [] w).then V; refine wnn (csr (wfl rfl jL rfl aT B rfl (wnn (bJ (csr (wel ?_)))))); refine wan (aW rfl (fun i6 => ?_) (fun i6 => ?_))
  ·have hk2 : t.kind = 2 := by omega
   refine aG (aB (wfl rfl kM rfl cO B rfl (wfl rfl kM rfl cO B rfl (aA (cC (vs := [(0, _), (1, _)]) kN rfl (cells := [_, _]) rfl) ?_)))); have hev16 := A; refine bM (vs := [_]) rfl gG rfl rfl rfl rfl fun i7 j4 b4 e8 I => ?_; refine aA (cC (vs := [(0, _), (4, _)]) dQ rfl (cells := [_, _, _, _, _]) rfl) ?_; have hsl := b4
   have hslx : ∀ g, some i7 = some g → g ∉ cb :: (ob.toList ++ Z) := fun g hg hm => by have h1 := MM hC hZ (Evo.refl [] w) _ hm; have h2 := (Ge.new A e8) g hg; omega
   refine aL (vs := [_, _]) eP rfl (jX (rs := [(t.r, t.r)]) (hC.evo0 (D.then I)) (RSl.ofOwn (rows := [[.int .i32 t.r, .int .i32 t.r]]) hsl (rows_rr _ _ _ _) rfl hslx) (by omega)) rfl ?_; rintro _ i8 ⟨rfl, e9, hto1⟩; have hlt_b3_1 := (Lt.blk (I.blk0 B)); have hlt_b13_1 := (Lt.own b4); have hev_1 := (A.then I); have f0 := (A.then I).step e9 (dT (.inl rfl)); obtain ⟨pa_1, pc_1, po_1, hC_1, hp_1⟩ := hto1; have hq_1 := dW (.inl rfl) hev_1 hp_1; have hA_b3_1 := fO F.symm hlt_b3_1 hp_1
   have hAJN_1 : Apart (some cb) po_1 := fun g h1 h2 => by cases h1; exact hC_1.ne cb h2 rfl
   refine aQ (aP (eA rfl ?_))
   refine ⟨rfl, f0, [(⟨2, (es.length : Nat) + 1, 0, 0, [(t.r, t.r)]⟩, _)], ⟨_, _, _, hC_1.evo0 (Evo.refl [] i8), hq_1⟩, PI (by omega), by have := yC (t := t) (by omega); show 1 ≤ t.esz; omega, gB ⟨by simp, by show (0 : Int) ≤ (es.length : Nat) + 1; omega, Int.le_refl _, by show 1 ≤ 1048576; decide⟩⟩
  refine csr (wel ?_); refine wan (aW rfl (fun f5 => ?_) (fun f5 => ?_))
  ·refine aI (csr (wfl rfl mJ rfl pL B rfl (aA (aZ rfl Try.underlying34 rfl) ?_))); refine wel ?_; refine wnn (aW rfl (fun a0 => ?_) (fun a0 => ?_))
   ·refine csr (aB (aB (aA (aF rfl) (aA (aS rfl fK (aY (V.blk0 hC.blk) rfl)) (aA (cC (vs := [(0, _)]) dQ rfl (cells := [_, _, _, _, _]) rfl) ?_))))); refine bM (vs := [_]) rfl rK rfl rfl rfl rfl fun j5 j6 f6 j3 J => ?_; have b6 := J.blk0 (V.blk0 hC.blk); have hszg := ((A.then J)).size; refine cZ rfl rfl rfl rfl qI ((hC.own.evo0 V).evo0 J) (Src.ofOwn f6 ⟨by first | rfl | assumption, by first | rfl | assumption, by first | rfl | assumption, by first | rfl | assumption, by first | rfl | assumption, trivial⟩) (by omega) fun a2 c2 j7 ob2 i9 b7 hob54 => ?_; have f7 := (A.then J).step b7 (fun y hy => .inl (List.mem_cons_of_mem _ hy)); have hob2 : ob2 = ob ∨ ∃ g, ob2 = some g ∧ w.heap.size ≤ g := hob54.imp id (fun ⟨g, h1, h2⟩ => ⟨g, h1, Nat.le_trans hszg h2⟩); refine aA (aF rfl) ?_; refine bB rfl rfl (by first | rfl | assumption) tH (b7.blk b6 a4.nmem) rfl fun j8 b8 b9 => ?_
    have c0 := f7.step b9 (fun y hy => .inl (by rw [List.mem_singleton.1 hy]; exact List.mem_cons_self ..))
    have f8 := i9.evo b9 (a4.app (Lt.blk b6) hob54).symm.own1
    try simp only [cH, Nat.reduceAdd] at b8
    refine wnn (aH (aE (aN (BK rfl ?_))))
    refine ⟨rfl, c0, [(⟨11, 0, 0, 0, []⟩, .slice none 0 0)], ⟨a2, c2, ob2, ⟨?_, ?_, CC hC.ne (eM hC.blk) hob2, fun e he => ?_⟩, hob2⟩, JH (by omega) (List.length_eq_zero_iff.1 (by omega)), by have := yC (t := t) (by omega); show 1 ≤ t.esz; omega, gB ⟨by simp, Int.le_refl _, Int.le_refl _, Nat.zero_le _⟩⟩
    · rw [List.length_append]; exact b8
    · rw [List.length_append, rD]; exact f8
    · rcases List.mem_append.1 he with he | he
      · exact oU (hC.rs e he) ((c0).mono hmZ) (CM hob2)
      · rw [List.mem_singleton] at he; subst he; exact lX
   refine aM (aC (aG (aB (wfl rfl mJ rfl pL B rfl ?_)))); refine aL (vs := [_]) tM rfl (JI (RSl.evo RRg.pers ((D).any _) hrg) (MM hC hZ A) (hg.node.cls (by omega)).len) rfl ?_; rintro vr j9 ⟨hrc, L⟩; obtain ⟨va, vc, rfl, -⟩ := id hrc; refine aA (cC (vs := [(0, _), (4, _)]) dQ rfl (cells := [_, _, _, _, _]) rfl) ?_; refine aL (vs := [_, _]) eP rfl (jX (rs := t.ranges) (hC.evo0 (D.then L)) hrc (by omega)) rfl ?_; rintro _ j0 ⟨rfl, f9, hto1⟩; have hlt_b3_1 := (Lt.blk (L.blk0 B)); have hev_1 := (A.then L); have g0 := (A.then L).step f9 (dT (.inl rfl)); obtain ⟨pa_1, pc_1, po_1, hC_1, hp_1⟩ := hto1; have hq_1 := dW (.inl rfl) hev_1 hp_1; have hA_b3_1 := fO F.symm hlt_b3_1 hp_1
   have hAJN_1 : Apart (some cb) po_1 := fun g h1 h2 => by cases h1; exact hC_1.ne cb h2 rfl
   refine aQ (aP (eA rfl ?_))
   refine ⟨rfl, g0, [(⟨2, (es.length : Nat) + 1, 0, 0, t.ranges⟩, _)], ⟨_, _, _, hC_1.evo0 (Evo.refl [] j0), hq_1⟩, GF (by omega) (fun h => by rw [h] at a0; simp at a0), by have := yC (t := t) (by omega); show 1 ≤ t.esz; omega, gB ⟨by simp, by show (0 : Int) ≤ (es.length : Nat) + 1; omega, Int.le_refl _, (hg.node.cls (by omega)).len⟩⟩
  refine csr (wel ?_); refine wan (aW rfl (fun g1 => ?_) (fun g1 => ?_))
  ·have he4 := esz4 (t := t) (by omega); refine csr (wfl rfl eU rfl gR B rfl (aA (aZ rfl Try.underlying35 rfl) ?_)); refine aB (wnn (bJ ?_))
   refine dA (α := RpG) (⟨0, [], a, c, ob⟩) (fun x => [(44, .int .i64 (x.k : Nat))]) [(0, _), (42, _), (43, _)] (fun x wr => Evo (cb :: ob.toList) w wr ∧ (CtI w wr cb es ob Z t.kids x)) (fun x => t.kids.length - x.k) ⟨rfl, trivial⟩ ⟨rfl, rfl, rfl, trivial⟩ ⟨A, ⟨Nat.zero_le _, by rw [List.append_nil]; exact hC.evo0 D, .inl rfl, CatC.nil _, Nat.zero_le _, (fun _ h => by cases h)⟩⟩ ?_
   rintro ⟨k, new, pa, pc, po⟩ wr81 ⟨M, ⟨hj, hcd, hq, hpre, hlen, hnice⟩⟩; show CW _ _ _ _ [(44, .int .i64 (k : Nat)), (0, _), (42, _), (43, _)] _
   try dsimp only at hj hcd hq hpre hlen hnice
   have hAJN : Apart (some cb) po := fun g h1 h2 => by cases h1; exact hcd.ne cb h2 rfl
   refine csr (aA (cU rfl rfl) ?_); refine wnn (aI (aW rfl (fun g2 => ?_) (fun g2 => ?_)))
   ·have hj' : k < t.kids.length := by omega
    obtain ⟨b1, o1, vs1, ha1, hb1, hvl1, c1, hrk⟩ := e1 k hj'; obtain ⟨m1, ra1, rc1, ka1, kc1, rfl, rfl, -⟩ := id hrk.get; have hek := CZ hj'; refine aM (aC (aI (bJ (csr ?_))))
    refine aA (cG (n := k) (by rw [ha1]; rfl) rfl dV (by omega)) ?_
    refine aA (cY rfl bZ aU (vs := [_, _, _, _, _, _, _, _, _]) rfl (c1.evo M hb1)) ?_; refine cL rfl eN fun b5 k0 g3 a1 c3 => ?_; have j1 := a1; refine aV rfl rfl aU g3 rfl rfl ⟨by first | rfl | assumption, by first | rfl | assumption, by first | rfl | assumption, by first | rfl | assumption, by first | rfl | assumption, by first | rfl | assumption, by first | rfl | assumption, by first | rfl | assumption, by first | rfl | assumption, trivial⟩ fun j2 a3 c4 => ?_; have O := (M.then c3).step c4 (Ge.new M a1).mem1
    try simp only [cH, Nat.reduceAdd] at a3
    refine wnn (aG (aB (aA (bW rfl bZ aU a3 rfl) ?_))); have hZw : ∀ z, z ∈ Z → z < (j2).heap.size := fun z hz => Nat.lt_of_lt_of_le (hZ z hz) (O).size
    refine aL (vs := [_, _]) jJ rfl (ih (t := t.kids[k]) (hcd.evo0 (((Evo.refl [] wr81).then c3).step c4 (Ge.new (Evo.refl [] wr81) a1).mem1)) (RRx.step hrk O (dT hq) hXlt) (hg.kid _ (List.getElem_mem hj')) (by simp only [List.length_append, List.length_cons, List.length_nil]; omega) hZw) rfl ?_
    rintro _ g4 ⟨-, c6, kx1, hto1, hkx1, hkl1, hkn1⟩; have hlt_b5_1 := (Lt.blk a3); have hev_1 := O; obtain ⟨pa_1, pc_1, po_1, hC_1, hp_1⟩ := hto1; have hq_1 := dW hq hev_1 hp_1
    have hAJN_1 : Apart (some cb) po_1 := fun g h1 h2 => by cases h1; exact hC_1.ne cb h2 rfl
    refine aQ (aP (aC (aG ?_))); refine aA (aK rfl rfl (by omega) (by omega)) ?_; refine aB (aQ (bA ?_)); refine ⟨⟨k + 1, new ++ kx1, pa_1, pc_1, po_1⟩, ?_, ⟨rfl, trivial⟩, ⟨rfl, rfl, rfl, trivial⟩, (O.step c6 (dT hq)), ?_⟩
    · (try dsimp only); omega
    try dsimp only
    have hx' : gH t.kids[k] (es.length + (new.map (·.1)).length) (kx1.map (·.1)) := by rw [List.length_map]; have h := hkx1; rwa [List.length_append] at h
    refine ⟨by show k + 1 ≤ _; omega, (hC_1.evo0 (Evo.refl [] g4)).cast (List.append_assoc ..), hq_1, ?_, ?_, gV hnice hkn1⟩
    · show CatC (t.kids.take (k + 1)) _ _; rw [List.take_add_one, List.getElem?_eq_getElem hj', List.map_append]; exact hpre.snoc hx'
    · show _ ≤ iC (t.kids.take (k + 1)); rw [sH hj', List.length_append]; omega
   refine cN (bL (bL (cM (aP (eA rfl ?_))))); have hall : t.kids.take k = t.kids := List.take_of_length_le (by omega); rw [hall] at hpre hlen; exact ⟨rfl, M, new, ⟨_, _, _, hcd.evo0 (Evo.refl [] wr81), hq⟩, PM (by omega) hpre, by omega, hnice⟩
  refine csr (wel ?_); refine wan (aW rfl (fun g5 => ?_) (fun g5 => ?_))
  ·refine aG (aB (wfl rfl eU rfl gR B rfl ?_)); have hZw : ∀ z, z ∈ Z → z < (w1).heap.size := fun z hz => Nat.lt_of_lt_of_le (hZ z hz) (A).size
   refine aL (vs := [_, _]) KS rfl (GG ih (hC.evo0 D) (RSl.evo (RRx.pers _) A hk0) (by have := hn.two (by omega); omega) bl3 (fun k hk => hg.kid k hk) (by have h2 := hn.two (by omega); have := esz5 (t := t) (by omega) (by omega); omega) hZw) rfl ?_
   rintro _ g6 ⟨-, c7, kx1, hto1, hkx1, hkl1, hkn1⟩; have hlt_b3_1 := (Lt.blk B); have hev_1 := A; have c8 := A.step c7 (dT (.inl rfl)); obtain ⟨pa_1, pc_1, po_1, hC_1, hp_1⟩ := hto1; have hq_1 := dW (.inl rfl) hev_1 hp_1; have hA_b3_1 := fO F.symm hlt_b3_1 hp_1
   have hAJN_1 : Apart (some cb) po_1 := fun g h1 h2 => by cases h1; exact hC_1.ne cb h2 rfl
   refine aQ (aP (eA rfl ?_))
   exact ⟨rfl, c8, kx1, ⟨_, _, _, hC_1.evo0 (Evo.refl [] g6), hq_1⟩, PN (by omega) (by intro l hl; rw [List.length_map]; exact hkx1 l hl), by have := esz5 (t := t) (by omega) (by have := hn.two (by omega); omega); have := hn.two (by omega); omega, hkn1⟩
  refine csr (wel ?_); refine wan (aW rfl (fun g7 => ?_) (fun g7 => ?_))
  ·refine aG (aB (aA (bW rfl bZ aU B rfl) ?_)); have hZw : ∀ z, z ∈ Z → z < (w1).heap.size := fun z hz => Nat.lt_of_lt_of_le (hZ z hz) (A).size; refine aL (vs := [_, _]) KQ rfl (EC ih (hC.evo0 D) (RRx.pers _ _ _ _ _ _ A hx0) hg hl hZw (by omega)) rfl ?_; rintro _ g8 ⟨-, c9, kx1, hto1, hkx1, hkl1, hkn1⟩; have hlt_b3_1 := (Lt.blk B); have hev_1 := A; have d0 := A.step c9 (dT (.inl rfl)); obtain ⟨pa_1, pc_1, po_1, hC_1, hp_1⟩ := hto1; have hq_1 := dW (.inl rfl) hev_1 hp_1; have hA_b3_1 := fO F.symm hlt_b3_1 hp_1
   have hAJN_1 : Apart (some cb) po_1 := fun g h1 h2 => by cases h1; exact hC_1.ne cb h2 rfl
   refine aQ (aP (eA rfl ?_)); exact ⟨rfl, d0, kx1, ⟨_, _, _, hC_1.evo0 (Evo.refl [] g8), hq_1⟩, hkx1, hkl1, hkn1⟩
  refine csr (wel ?_); refine wan (aW rfl (fun g9 => ?_) (fun g9 => ?_))
  ·have hkl : t.kids.length = 1 := by have := hn.grp (by omega); omega
   have hky := AB hkl; have he1 := FW hkl; have he7 := esz7 (t := t) (by omega); have hcp := hcap (by omega)
   have hj' : 0 < t.kids.length := by omega
   obtain ⟨b1, o1, vs1, ha1, hb1, hvl1, c1, hrk⟩ := e1 0 hj'; obtain ⟨m1, ra1, rc1, ka1, kc1, rfl, rfl, -⟩ := id hrk.get; refine csr (aB (wfl rfl mH rfl aT B rfl ?_)); refine aA (fD rfl rfl (by omega) (by omega)) ?_; refine aA (cC (vs := [(0, _), (3, _)]) dQ rfl (cells := [_, _, _, _, _]) rfl) ?_; refine aL (vs := [_, _]) eP rfl (jX (rs := []) (hC.evo0 D) lX (by omega)) rfl ?_; rintro _ c5 ⟨rfl, a5, hto1⟩; have hlt_b3_1 := (Lt.blk B); have hev_1 := A; have H := A.step a5 (dT (.inl rfl)); have U := a5.blk B (nK e7.symm F.symm); obtain ⟨pa_1, pc_1, po_1, hC_1, hp_1⟩ := hto1; have hq_1 := dW (.inl rfl) hev_1 hp_1; have hA_b3_1 := fO F.symm hlt_b3_1 hp_1
   have hAJN_1 : Apart (some cb) po_1 := fun g h1 h2 => by cases h1; exact hC_1.ne cb h2 rfl
   refine wnn (csr (aB (wfl rfl eU rfl gR U rfl ?_)))
   refine aA (fA (n := 0) (by rw [ha1]; rfl) rfl rfl dV (by omega)) ?_
   refine aA (cY rfl bZ aU (vs := [_, _, _, _, _, _, _, _, _]) rfl (c1.evo H hb1)) ?_; have hZw : ∀ z, z ∈ Z → z < (c5).heap.size := fun z hz => Nat.lt_of_lt_of_le (hZ z hz) (H).size
   refine aL (vs := [_, _]) jJ rfl (ih (t := t.kids[0]) (hC_1.evo0 (Evo.refl [] c5)) (RRx.step hrk H (dT hq_1) hXlt) (hg.kid _ (List.getElem_mem hj')) (by simp only [List.length_append, List.length_cons, List.length_nil]; omega) hZw) rfl ?_
   rintro _ h0 ⟨-, a6, kx2, hto2, hkx2, hkl2, hkn2⟩; have hlt_b3_2 := (Lt.blk U); have hev_2 := H; have a7 := H.step a6 (dT hq_1); have a8 := a6.blk U (nK e7.symm hA_b3_1); obtain ⟨pa_2, pc_2, po_2, hC_2, hp_2⟩ := hto2; have hq_2 := dW hq_1 hev_2 hp_2
   have hAJN_2 : Apart (some cb) po_2 := fun g h1 h2 => by cases h1; exact hC_2.ne cb h2 rfl
   refine wnn (aG (aB (wfl rfl mH rfl aT a8 rfl ?_))); refine aA (fD rfl rfl (by omega) (by omega)) ?_; refine aA (aK rfl rfl (by omega) (by omega)) ?_; refine aA (cC (vs := [(0, _), (3, _)]) dQ rfl (cells := [_, _, _, _, _]) rfl) ?_
   refine aL (vs := [_, _]) eP rfl (jX (rs := []) (hC_2.evo0 (Evo.refl [] h0)) lX (by simp only [List.length_append, List.length_cons, List.length_nil]; omega)) rfl ?_
   rintro _ h3 ⟨rfl, d1, hto3⟩; have hlt_b3_3 := (Lt.blk a8); have hev_3 := a7; obtain ⟨pa_3, pc_3, po_3, hC_3, hp_3⟩ := hto3; have hq_3 := dW hq_2 hev_3 hp_3
   have hAJN_3 : Apart (some cb) po_3 := fun g h1 h2 => by cases h1; exact hC_3.ne cb h2 rfl
   refine aQ (aP (eA rfl ?_)); refine ⟨rfl, (a7.step d1 (dT hq_2)), [(⟨4, (es.length : Nat) + 1, 0, 2 * t.cap, []⟩, .slice none 0 0)] ++ (kx2 ++ [(⟨4, ((es.length + 1 + kx2.length : Nat) : Int) + 1, 0, 2 * t.cap + 1, []⟩, .slice none 0 0)]), ⟨_, _, _, (hC_3.evo0 (Evo.refl [] h3)).cast ?_, hq_3⟩, ?_, ?_, ?_⟩
   · simp [List.append_assoc] <;> omega
   · have h := PK (a := es.length) (k := kx2.map (·.1)) (by omega) hky (by have h := hkx2; rwa [List.length_append] at h)
     rw [List.length_map] at h
     rw [List.map_append, List.map_append]; exact h
   · simp only [List.length_append, List.length_cons, List.length_nil]; omega
   · exact gV (gB ⟨by simp, by show (0 : Int) ≤ (es.length : Nat) + 1; omega, Int.le_refl _, Nat.zero_le _⟩) (gV hkn2 (gB ⟨by simp, by show (0 : Int) ≤ ((es.length + 1 + kx2.length : Nat) : Int) + 1; omega, Int.le_refl _, Nat.zero_le _⟩))
  refine csr (wel ?_); refine wan (aW rfl (fun h4 => ?_) (fun h4 => ?_))
  ·refine aG (aB (aA (cC (vs := [(0, _)]) dQ rfl (cells := [_, _, _, _, _]) rfl) ?_)); refine aL (vs := [_, _]) eP rfl (jX (rs := []) (hC.evo0 D) lX (by omega)) rfl ?_; rintro _ h5 ⟨rfl, d2, hto1⟩; have hlt_b3_1 := (Lt.blk B); have hev_1 := A; have d3 := A.step d2 (dT (.inl rfl)); obtain ⟨pa_1, pc_1, po_1, hC_1, hp_1⟩ := hto1; have hq_1 := dW (.inl rfl) hev_1 hp_1; have hA_b3_1 := fO F.symm hlt_b3_1 hp_1
   have hAJN_1 : Apart (some cb) po_1 := fun g h1 h2 => by cases h1; exact hC_1.ne cb h2 rfl
   refine aQ (aP (eA rfl ?_))
   refine ⟨rfl, d3, [(⟨5, (es.length : Nat) + 1, 0, 0, []⟩, .slice none 0 0)], ⟨_, _, _, hC_1.evo0 (Evo.refl [] h5), hq_1⟩, ?_, by have := yC (t := t) (by omega); show 1 ≤ t.esz; omega, gB ⟨by simp, by show (0 : Int) ≤ (es.length : Nat) + 1; omega, Int.le_refl _, Nat.zero_le _⟩⟩
   have h := lN (x := t) (a := es.length) (by omega)
   have e : kX t.kind es.length = ⟨5, (es.length : Int) + 1, 0, 0, []⟩ := by rw [show t.kind = 8 from by omega]; rfl
   rw [e] at h; exact h
  refine csr (wel ?_); refine wan (aW rfl (fun h6 => ?_) (fun h6 => ?_))
  ·refine aG (aB (aA (cC (vs := [(0, _)]) dQ rfl (cells := [_, _, _, _, _]) rfl) ?_)); refine aL (vs := [_, _]) eP rfl (jX (rs := []) (hC.evo0 D) lX (by omega)) rfl ?_; rintro _ h7 ⟨rfl, d4, hto1⟩; have hlt_b3_1 := (Lt.blk B); have hev_1 := A; have d5 := A.step d4 (dT (.inl rfl)); obtain ⟨pa_1, pc_1, po_1, hC_1, hp_1⟩ := hto1; have hq_1 := dW (.inl rfl) hev_1 hp_1; have hA_b3_1 := fO F.symm hlt_b3_1 hp_1
   have hAJN_1 : Apart (some cb) po_1 := fun g h1 h2 => by cases h1; exact hC_1.ne cb h2 rfl
   refine aQ (aP (eA rfl ?_))
   refine ⟨rfl, d5, [(⟨6, (es.length : Nat) + 1, 0, 0, []⟩, .slice none 0 0)], ⟨_, _, _, hC_1.evo0 (Evo.refl [] h7), hq_1⟩, ?_, by have := yC (t := t) (by omega); show 1 ≤ t.esz; omega, gB ⟨by simp, by show (0 : Int) ≤ (es.length : Nat) + 1; omega, Int.le_refl _, Nat.zero_le _⟩⟩
   have h := lN (x := t) (a := es.length) (by omega)
   have e : kX t.kind es.length = ⟨6, (es.length : Int) + 1, 0, 0, []⟩ := by rw [show t.kind = 9 from by omega]; rfl
   rw [e] at h; exact h
  refine csr (wel ?_); refine wan (aW rfl (fun h8 => ?_) (fun h8 => ?_))
  ·refine aG (aB (aA (cC (vs := [(0, _)]) dQ rfl (cells := [_, _, _, _, _]) rfl) ?_)); refine aL (vs := [_, _]) eP rfl (jX (rs := []) (hC.evo0 D) lX (by omega)) rfl ?_; rintro _ h9 ⟨rfl, d6, hto1⟩; have hlt_b3_1 := (Lt.blk B); have hev_1 := A; have d7 := A.step d6 (dT (.inl rfl)); obtain ⟨pa_1, pc_1, po_1, hC_1, hp_1⟩ := hto1; have hq_1 := dW (.inl rfl) hev_1 hp_1; have hA_b3_1 := fO F.symm hlt_b3_1 hp_1
   have hAJN_1 : Apart (some cb) po_1 := fun g h1 h2 => by cases h1; exact hC_1.ne cb h2 rfl
   refine aQ (aP (eA rfl ?_))
   refine ⟨rfl, d7, [(⟨7, (es.length : Nat) + 1, 0, 0, []⟩, .slice none 0 0)], ⟨_, _, _, hC_1.evo0 (Evo.refl [] h9), hq_1⟩, ?_, by have := yC (t := t) (by omega); show 1 ≤ t.esz; omega, gB ⟨by simp, by show (0 : Int) ≤ (es.length : Nat) + 1; omega, Int.le_refl _, Nat.zero_le _⟩⟩
   have h := lN (x := t) (a := es.length) (by omega)
   have e : kX t.kind es.length = ⟨7, (es.length : Int) + 1, 0, 0, []⟩ := by rw [show t.kind = 10 from by omega]; rfl
   rw [e] at h; exact h
  refine csr (wel ?_); refine wan (aW rfl (fun i1 => ?_) (fun i1 => ?_))
  ·refine aG (aB (aA (cC (vs := [(0, _)]) dQ rfl (cells := [_, _, _, _, _]) rfl) ?_)); refine aL (vs := [_, _]) eP rfl (jX (rs := []) (hC.evo0 D) lX (by omega)) rfl ?_; rintro _ i2 ⟨rfl, d8, hto1⟩; have hlt_b3_1 := (Lt.blk B); have hev_1 := A; have d9 := A.step d8 (dT (.inl rfl)); obtain ⟨pa_1, pc_1, po_1, hC_1, hp_1⟩ := hto1; have hq_1 := dW (.inl rfl) hev_1 hp_1; have hA_b3_1 := fO F.symm hlt_b3_1 hp_1
   have hAJN_1 : Apart (some cb) po_1 := fun g h1 h2 => by cases h1; exact hC_1.ne cb h2 rfl
   refine aQ (aP (eA rfl ?_))
   refine ⟨rfl, d9, [(⟨8, (es.length : Nat) + 1, 0, 0, []⟩, .slice none 0 0)], ⟨_, _, _, hC_1.evo0 (Evo.refl [] i2), hq_1⟩, ?_, by have := yC (t := t) (by omega); show 1 ≤ t.esz; omega, gB ⟨by simp, by show (0 : Int) ≤ (es.length : Nat) + 1; omega, Int.le_refl _, Nat.zero_le _⟩⟩
   have h := lN (x := t) (a := es.length) (by omega)
   have e : kX t.kind es.length = ⟨8, (es.length : Int) + 1, 0, 0, []⟩ := by rw [show t.kind = 11 from by omega]; rfl
   rw [e] at h; exact h
  refine csr (wel ?_); refine wan (aW rfl (fun e0 => ?_) (fun e0 => ?_))
  ·refine aG (aB (aA (cC (vs := [(0, _)]) dQ rfl (cells := [_, _, _, _, _]) rfl) ?_)); refine aL (vs := [_, _]) eP rfl (jX (rs := []) (hC.evo0 D) lX (by omega)) rfl ?_; rintro _ i3 ⟨rfl, e2, hto1⟩; have hlt_b3_1 := (Lt.blk B); have hev_1 := A; have e3 := A.step e2 (dT (.inl rfl)); obtain ⟨pa_1, pc_1, po_1, hC_1, hp_1⟩ := hto1; have hq_1 := dW (.inl rfl) hev_1 hp_1; have hA_b3_1 := fO F.symm hlt_b3_1 hp_1
   have hAJN_1 : Apart (some cb) po_1 := fun g h1 h2 => by cases h1; exact hC_1.ne cb h2 rfl
   refine aQ (aP (eA rfl ?_))
   refine ⟨rfl, e3, [(⟨9, (es.length : Nat) + 1, 0, 0, []⟩, .slice none 0 0)], ⟨_, _, _, hC_1.evo0 (Evo.refl [] i3), hq_1⟩, ?_, by have := yC (t := t) (by omega); show 1 ≤ t.esz; omega, gB ⟨by simp, by show (0 : Int) ≤ (es.length : Nat) + 1; omega, Int.le_refl _, Nat.zero_le _⟩⟩
   have h := lN (x := t) (a := es.length) (by omega)
   have e : kX t.kind es.length = ⟨9, (es.length : Int) + 1, 0, 0, []⟩ := by rw [show t.kind = 12 from by omega]; rfl
   rw [e] at h; exact h
  refine csr (wel ?_); refine wan (aW rfl (fun e4 => ?_) (fun e4 => ?_))
  ·refine aG (aB (aA (cC (vs := [(0, _), (3, _)]) dQ rfl (cells := [_, _, _, _, _]) rfl) ?_)); refine aL (vs := [_, _]) eP rfl (jX (rs := []) (hC.evo0 D) lX (by omega)) rfl ?_; rintro _ i4 ⟨rfl, e5, hto1⟩; have hlt_b3_1 := (Lt.blk B); have hev_1 := A; have e6 := A.step e5 (dT (.inl rfl)); obtain ⟨pa_1, pc_1, po_1, hC_1, hp_1⟩ := hto1; have hq_1 := dW (.inl rfl) hev_1 hp_1; have hA_b3_1 := fO F.symm hlt_b3_1 hp_1
   have hAJN_1 : Apart (some cb) po_1 := fun g h1 h2 => by cases h1; exact hC_1.ne cb h2 rfl
   refine aQ (aP (eA rfl ?_))
   refine ⟨rfl, e6, [(⟨9, (es.length : Nat) + 1, 0, 1, []⟩, .slice none 0 0)], ⟨_, _, _, hC_1.evo0 (Evo.refl [] i4), hq_1⟩, ?_, by have := yC (t := t) (by omega); show 1 ≤ t.esz; omega, gB ⟨by simp, by show (0 : Int) ≤ (es.length : Nat) + 1; omega, Int.le_refl _, Nat.zero_le _⟩⟩
   have h := lN (x := t) (a := es.length) (by omega)
   have e : kX t.kind es.length = ⟨9, (es.length : Int) + 1, 0, 1, []⟩ := by rw [show t.kind = 13 from by omega]; rfl
   rw [e] at h; exact h
  refine aM (aP (eA rfl ?_))
  have h1 := hn.kind1; have h2 := hn.kind2
  exact ⟨rfl, A, [], ⟨a, c, ob, (by rw [List.append_nil]; exact hC.evo0 D), .inl rfl⟩, GE (by omega), Nat.zero_le _, fun _ h => by cases h⟩
theorem NK : ∀ {n : Nat} {w : World} {cb : Nat} {es : List Iv} {a : Option Addr} {c : Nat} {ob : Option Nat} {Z : List Nat} {vs : List Value} {t : Rx} (hC : CdAt w cb es a c ob Z) (hx : RRx n (cb :: ob.toList) w vs t) (hg : Good t) (hl : es.length + t.esz ≤ 100000) (hZ : ∀ z, z ∈ Z → z < w.heap.size), Calls Try.prog 22 #[.pointer (some ⟨cb, 0, none⟩), .agg vs.toArray] w (Ret fun v w' => v = .tuple #[] ∧ Evo (cb :: ob.toList) w w' ∧ ∃ new, HI w w' cb ob (es ++ new) Z ∧ gH t es.length (new.map (·.1)) ∧ new.length ≤ t.esz ∧ ∀ e, e ∈ new → mM e.1)
  | 0, w, cb, es, a, c, ob, Z, vs, t, hC, hx, hg, hl, hZ => hx.elim
  | n + 1, w, cb, es, a, c, ob, Z, vs, t, hC, hx, hg, hl, hZ => PO (n := n) (fun hC hx hg hl hZ => NK hC hx hg hl hZ) hC hx hg hl hZ
def RIn : Rel In := fun X w vs c => ∃ vr, vs = [iv c.op, iv c.out, iv c.alt, iv c.arg, vr] ∧ RSl 2 RRg X w vr c.rs ∧ c.rs.length ≤ 1048576
theorem RIn.pers : RIn.Pers := fun _ _ _ _ _ he ⟨v, h1, h2, h3⟩ => ⟨v, h1, RSl.evo RRg.pers he h2, h3⟩
theorem OY (es : List Iv) : (es.map Iv.cells).flatten = oN es := by unfold oN; rw [List.flatMap_def]
theorem prog_of {X : List Nat} {w : World} {es : List Iv} {a : Option Addr} {n c : Nat} {ob : Option Nat} (h1 : OwnS w 68 5 a n c (oN es) ob) (hx : ∀ g, ob = some g → g ∉ X) (hr : ∀ e, e ∈ es → RSl 2 RRg X w e.2 e.1.rs) (hn : ∀ e, e ∈ es → e.1.rs.length ≤ 1048576) : RSl 5 RIn X w (.slice a n c) (es.map (·.1)) := by
  have hl := h1.length
  rw [FN] at hl
  rw [← OY] at h1
  refine RSl.ofOwn (rows := es.map Iv.cells) h1 ⟨by simp, fun k hk hk' => ?_⟩ (by rw [List.length_map]; omega) hx
  have hk2 : k < es.length := by simpa using hk
  simp only [List.getElem_map]
  exact ⟨rfl, _, rfl, hr _ (List.getElem_mem hk2), hn _ (List.getElem_mem hk2)⟩
theorem OE {t : Rx} {new : List Iv} (hg : Good t) (hc : gH t ([] : List Iv).length (new.map (·.1))) (hn : ∀ e, e ∈ new → mM e.1) {v : Value} : ProgOk t ((new ++ [((⟨1, 0, 0, 0, []⟩ : In), v)]).map (·.1)) new.length := by
  have e : (new ++ [((⟨1, 0, 0, 0, []⟩ : In), v)]).map (·.1) = new.map (·.1) ++ [⟨1, 0, 0, 0, []⟩] := by simp
  rw [e]
  refine ⟨by simp, by simp, fun p c hp hl => ?_, ?_, hg⟩
  · rw [List.getElem?_append_left (by simpa using hp)] at hl
    obtain ⟨x, hx, rfl⟩ := List.mem_map.1 (List.mem_of_getElem? hl)
    exact hn x hx
  · have := hc (new.map (·.1) ++ [⟨1, 0, 0, 0, []⟩]) (fun i hi => by rw [List.length_nil, Nat.zero_add, List.getElem?_append_left hi, List.getElem?_eq_getElem hi])
    rwa [List.length_nil, Nat.zero_add, List.length_map] at this
theorem CdAt.new {w : World} {cb : Nat} {Z : List Nat} (h : w.heap[cb]? = some (.cells #[.slice none 0 0] 65 (0, 0))) : CdAt w cb [] none 0 none Z := ⟨h, OwnS.nil _ _ _, fun g hg => (by cases hg), fun e he => (by cases he)⟩
theorem SizeIs.zero {t : Rx} {r : Int} (h : SizeIs t r) (h0 : r = 0) : ¬ t.Ok := fun hk => by have := h.1 hk; omega
theorem SizeIs.big {t : Rx} {r : Int} (h : SizeIs t r) (hk : t.Ok) (h0 : 10000 < r) : 10000 < t.esz + 1 := by have := h.1 hk; omega
theorem SizeIs.fits {t : Rx} {r : Int} (h : SizeIs t r) (hk : t.Ok) (h0 : ¬ 10000 < r) : t.esz + 1 ≤ 10000 := by have := h.1 hk; omega
theorem QT {t : Rx} (h : t.esz + 1 ≤ 10000) : ([] : List Iv).length + t.esz ≤ 100000 := by rw [List.length_nil]; omega
theorem size_lt {t : Rx} (h : t.esz + 1 ≤ 10000) : t.esz ≤ 9999 := by omega
def Shp (ps : List Value) : Prop := ∃ a n c g nm, ps = [.slice a n c, iv 0, g, nm] ∧ g.oneCell' = true ∧ nm.oneCell' = true
end Go.Proofs.Ytidpigbinpaaeaa
namespace Go.W
open Go.RowKit
section
variable {P : Program} {N : NN} {R : iA} {σ : Env} {w w' : World} {ops : Array Oper} {rest : List Oper} {n d : Nat} {op : Op} {T : TypeId} {pos : String} {after : Array Edge}
end
abbrev pan (v : Value) : List PanicEntry := [{ v := v, recovered := false }]
def RetP (Φ : Value → World → Prop) (Ψ : Value → World → Prop) : Ending → World → Prop
  | .returned v, w => Φ v w
  | .panicked c, w => ∃ v, c = pan v ∧ Ψ v w
  | .outgrown, _ => False
theorem RetP.of {Φ Ψ : Value → World → Prop} {e : Ending} {w : World} (h : Ret Φ e w) : RetP Φ Ψ e w := by obtain ⟨v, rfl, h⟩ := h; exact h
section
variable {P : Program} {N : NN} {R : iA} {σ : Env} {w : World} {ops : Array Oper} {rest : List Oper} {T : TypeId} {pos : String} {after : Array Edge} {d : Nat}
theorem args_eq {σ : Env} {a : Act} {xs : Array Operand} {vs : List Value} (hag : DR σ a.eval) (hxs : xs.toList.map σ.ev = vs.map some) : xs.map a.eval = vs.toArray := by
  apply Array.ext'
  rw [Array.toList_map]
  generalize xs.toList = l at *
  clear xs
  revert vs
  induction l with
  | nil => intro vs hxs; cases vs with | nil => rfl | cons _ _ => simp at hxs
  | cons x l ih =>
    intro vs hxs
    cases vs with
    | nil => simp at hxs
    | cons v vs =>
      simp only [List.map_cons, List.cons.injEq] at hxs
      simp only [List.map_cons, hag x v hxs.1]
      exact congrArg _ (ih hxs.2)
theorem QC {dst : Option Nat} {f : FuncId} {xs : Array Operand} {ats : Array TypeId} {vs : List Value} {Φ Ψ : Value → World → Prop} (hgo : dY P f) (hxs : xs.toList.map σ.ev = vs.map some)
    (hc : Calls P f vs.toArray w (RetP Φ Ψ)) (hd : ∀ k, dst = some k → Nat.blt k N.1 = true) (hp : ∀ v w', Ψ v w' → R (.panic (pan v)) N σ w')
    (h : ∀ v w', Φ v w' → WL P N ops R rest (match dst with | some k => (k, v) :: σ | none => σ) w') :
    WL P N ops R (⟨dst, .call ⟨.value (.func f), xs, ats⟩, T, pos, after, none⟩ :: rest) σ w := fun a ha => wpList_plain rfl fun K hK => by
  have hargs := args_eq ha.agrees hxs
  obtain ⟨fn, hf, hn, hbd⟩ := hgo
  unfold Oper.wp
  have hrun : (execOp a.eval ⟨dst, .call ⟨.value (.func f), xs, ats⟩, T, pos, after, none⟩).run P w = .ok (.enter f vs.toArray) w := by
    have hn' : ¬ fn.name = "runtime.NumGoroutine" := by simpa using hn
    have hb' : ¬ fn.body = none := by intro hh; simp [hh] at hbd
    simp only [execOp, resolve, hargs]
    simp [Act.eval, Deferred.ofValue, invoke, callFunc, hf, hn', hb']
  rw [hrun]
  show Calls P f vs.toArray w _
  refine hc.mono ?_
  intro e w' he
  cases e with
  | returned v =>
    cases dst with
    | none => exact hK _ _ (h v w' he a ha)
    | some k => exact hK _ _ (h v w' he _ (ha.put (of_decide_eq_true (by simpa using hd k rfl)) v))
  | panicked c => obtain ⟨v, rfl, hΨ⟩ := he; exact ⟨N, σ, ha, hp v w' hΨ⟩
  | outgrown => exact he.elim
theorem cB {f : FuncId} {xs : Array Operand} {ats : Array TypeId} {vs : List Value} {Φ Ψ : Value → World → Prop} (hgo : dY P f) (hxs : xs.toList.map σ.ev = vs.map some)
    (hc : Calls P f vs.toArray w (RetP Φ Ψ)) (hd : Nat.blt d N.1 = true) (hp : ∀ v w', Ψ v w' → R (.panic (pan v)) N σ w') (h : ∀ v w', Φ v w' → WL P N ops R rest ((d, v) :: σ) w') :
    WL P N ops R (⟨some d, .call ⟨.value (.func f), xs, ats⟩, T, pos, after, none⟩ :: rest) σ w := QC hgo hxs hc (fun k hk => by cases hk; exact hd) hp h
theorem PZ {dst : Option Nat} {x : Operand} {t : TypeId} {v : Value} (hx : σ.ev x = some (.iface t v)) (h : R (.panic (pan (.iface t v))) N σ w) : WL P N ops R (⟨dst, .panic x, T, pos, after, none⟩ :: rest) σ w :=
  fun a ha => wpList_plain rfl fun K hK => by
    unfold Oper.wp
    have hrun : (execOp a.eval ⟨dst, .panic x, T, pos, after, none⟩).run P w = .halt (.panic (.iface t v)) w := by
      simp only [execOp, ha.agrees x _ hx]
      rfl
    rw [hrun]
    exact ⟨N, σ, ha, h⟩
theorem UN {dst : Option Nat} {g : Option (Nat × Bool)} {x : Operand} {t : TypeId} {v : Value} (hx : σ.ev x = some v) (ht : ∀ w, (Instr.makeInterface t v).run P w = .ok (.iface t v) w) : Ex P σ ⟨dst, .makeInterface t x, T, pos, after, g⟩ w (.iface t v) w := fun ρ h => by
  simp [execOp, h x _ hx, ht]
abbrev dfr (f : FuncId) (cap : Array Value) : Deferred := { target := .fn (.func f) cap, args := #[] }
theorem QB {x : Operand} {ats : Array TypeId} {f : FuncId} {cap : Array Value} (hx : σ.ev x = some (.func (.func f) #[] cap)) (h : WL P (N.1, dfr f cap :: N.2) ops R rest σ w) :
    WL P N ops R (⟨none, .defer ⟨.value x, #[], ats⟩, T, pos, after, none⟩ :: rest) σ w := fun a ha => wpList_plain rfl fun K hK => by
  unfold Oper.wp
  have hrun : (execOp a.eval ⟨none, .defer ⟨.value x, #[], ats⟩, T, pos, after, none⟩).run P w = .ok (.defer (dfr f cap)) w := by
    simp only [execOp, resolve, ha.agrees x _ hx]
    simp [Deferred.ofValue]
  rw [hrun]
  exact hK _ _ (h _ ⟨ha.1, by show dfr f cap :: a.defers = _; rw [ha.2.1], ha.2.2⟩)
end
section
variable {P : Program} {σ : Env} {w : World}
theorem cE {fn : Func} {Φ Ψ : Value → World → Prop} {N : NN} (h : nP P fn (Ret Φ) .ret N σ w) : nP P fn (RetP Φ Ψ) .ret N σ w :=
  ⟨h.1, fun a ha => by obtain ⟨v, h1, h2⟩ := h.2 a ha; exact ⟨v, h1, RetP.of h2⟩⟩
theorem VG {n : Nat} {fn : Func} {Φ Ψ : Value → World → Prop} {v : Value} (h : Ψ v w) : nP P fn (RetP Φ Ψ) (.panic (pan v)) (n, []) σ w := ⟨rfl, v, rfl, h⟩
def VH (P : Program) (fn : Func) (E : Ending → World → Prop) : iA
  | .normal, N, σ, w => ∀ a, Fits N σ a → Leaves P fn a.tmps E N.2 .returning w
  | .ret, N, σ, w => ∀ a, Fits N σ a → Leaves P fn a.tmps E N.2 .returning w
  | .panic chain, N, σ, w => ∀ a, Fits N σ a → Leaves P fn a.tmps E N.2 (.panicking chain) w
  | .outgrown, _, _, w => E .outgrown w
  | .exit _, _, _, _ => False
  | .goto _, _, _, _ => False
theorem DI {f : FuncId} {fn : Func} {c : Code} {args : List Value} {E : Ending → World → Prop} {N : Nat}
    (hf : P.funcs[f]? = some fn) (hb : fn.body = some c) (hN : fn.ntmps = N) (hle' : Nat.ble args.length N = true)
    (h : CW P (N, []) c (VH P fn E) (nF 0 args) w) : Calls P f args.toArray w E := by
  have hle : args.length ≤ N := Nat.le_of_ble_eq_true hle'; refine calls_of_wp_defers hf hb (wp_mono (h _ ⟨?_, rfl, ?_⟩) ?_)
  · simp [hN]; omega
  · intro t v hv
    obtain ⟨_, h2⟩ := pS args 0 t v hv; simp only [Nat.sub_zero] at h2; have hlt : t < args.length := (List.getElem?_eq_some_iff.1 h2).1
    have h3 : args[t] = v := by rw [List.getElem?_eq_getElem hlt] at h2; exact Option.some.inj h2
    simp [Array.getElem?_append, hlt, h3]
  · intro e a' w' hq
    cases e with
    | normal => obtain ⟨N', σ', hf', hk⟩ := hq; show Leaves _ _ _ _ _ _ _; rw [hf'.2.1]; exact hk a' hf'
    | ret => obtain ⟨N', σ', hf', hk⟩ := hq; show Leaves _ _ _ _ _ _ _; rw [hf'.2.1]; exact hk a' hf'
    | panic ch => obtain ⟨N', σ', hf', hk⟩ := hq; show Leaves _ _ _ _ _ _ _; rw [hf'.2.1]; exact hk a' hf'
    | outgrown => obtain ⟨_, hk⟩ := hq; exact hk
    | exit i => obtain ⟨_, _, _, hk⟩ := hq; exact hk
    | goto l => obtain ⟨_, _, _, hk⟩ := hq; exact hk
theorem IN {fn : Func} {tmps : Array Value} {E : Ending → World → Prop} {f : FuncId} {g : Func} {cap : Array Value} {u : FrameMode} (hg : P.funcs[f]? = some g) (hn : (g.name == "runtime.NumGoroutine") = false) (hb : g.body.isNone = false) (hu : u ≠ .run)
    (h : CallsD P f cap u w fun e u' w' => match e with
      | .returned _ => Leaves P fn tmps E [] (settle u') w'
      | .panicked chain => Leaves P fn tmps E [] (raised u' chain) w'
      | .outgrown => E .outgrown w') : Leaves P fn tmps E [dfr f cap] u w := by
  refine leaves_cons hu ?_ (h.mono ?_)
  · have hn' : ¬ g.name = "runtime.NumGoroutine" := by simpa using hn
    have hb' : ¬ g.body = none := by intro hh; simp [hh] at hb
    simp [invoke, callFunc, hg, hn', hb']
  · intro e u' w' he
    cases e <;> exact he
end
section
variable {P : Program} {σ : Env} {w : World} {dst : Option Nat} {T : TypeId} {pos : String} {after : Array Edge} {g : Option (Nat × Bool)}
theorem eD {x i : Operand} {t : TypeId} {k : IntKind} {z : Int} {n sz b o len c : Nat} {a : Option Addr} (hx : σ.ev x = some (.slice a len c)) (hi : σ.ev i = some (.int k z)) (ha : a = some ⟨b, o, none⟩) (hz : z = n) (he : pG P t = some sz) (hlt : n < len) :
    Ex P σ ⟨dst, .indexAddr t x i, T, pos, after, g⟩ w (.pointer (some ⟨b, o + n * sz, none⟩)) w := by subst ha; exact fA hx hi hz he hlt
theorem oT {t : TypeId} {m : Nat} (hs : fQ P t = some m) (w : World) : (sizeOf t).run P w = .ok m w := by
  simp only [fQ] at hs
  cases hi : P.info? t with
  | none => rw [hi] at hs; cases hs
  | some i => rw [hi] at hs; simp at hs; subst hs; simp [sizeOf, typeInfo, hi, go_sem]
theorem NY {t : TypeId} {cs : Array Value} {off m : Nat} (w : World) (ht : kT P t = some true) (hs : fQ P t = some m) : (part t cs off).run P w = .ok (.agg (cs.extract off (off + m))) w := by
  simp [part, mV ht, oT hs]
theorem NF {x i : Operand} {t e : TypeId} {k : IntKind} {z : Int} {n len sz : Nat} {cs : Array Value} {v : Value} (hx : σ.ev x = some (.agg cs)) (hi : σ.ev i = some (.int k z)) (ht : P.underlying t = some (.array len e)) (hz : z = (n : Int)) (hn : n < len) (hs : fQ P e = some sz)
    (hp : ∀ w, (part e cs (n * sz)).run P w = .ok v w) : Ex P σ ⟨dst, .index t x i, T, pos, after, g⟩ w v w := fun ρ h => by
  subst hz
  have hc : 0 ≤ (n : Int) ∧ (n : Int) < len := ⟨by omega, by omega⟩
  have hp' := hp w
  simp [oT hs, go_sem] at hp'
  simp [execOp, h x _ hx, h i _ hi, Instr.index, run_underlying ht, asIntOf, hc, hn, oT hs, go_sem]
  rw [hp']; rfl
theorem lM {x i : Operand} {t e : TypeId} {k : IntKind} {z : Int} {n len sz b o : Nat} (hx : σ.ev x = some (.pointer (some ⟨b, o, none⟩))) (hi : σ.ev i = some (.int k z)) (ht : P.underlying t = some (.array len e)) (hz : z = (n : Int)) (hn : n < len) (hs : fQ P e = some sz) :
    Ex P σ ⟨dst, .indexAddr t x i, T, pos, after, g⟩ w (.pointer (some ⟨b, o + n * sz, none⟩)) w := fun ρ h => by
  subst hz
  have hc : 0 ≤ (n : Int) ∧ (n : Int) < len := ⟨by omega, by omega⟩
  simp [execOp, h x _ hx, h i _ hi, Instr.indexAt, run_underlying ht, Instr.sureAddr, asIntOf, hc, hn, oT hs, Addr.add, go_sem]
theorem sG {t e : TypeId} {len sz : Nat} {parts : Array (Nat × Operand)} {vs : List (Nat × Value)} {zero cells : Array Value} (ht : P.underlying t = some (.array len e)) (hz : mN P t = some zero) (hs : fQ P e = some sz)
    (hp : parts.toList.map (fun p => (p.1, σ.ev p.2)) = vs.map (fun q => (q.1, some q.2))) (hf : Instr.fill (fun i => some (i * sz, sz)) zero vs = some cells) : Ex P σ ⟨dst, .build t parts, T, pos, after, g⟩ w (.agg cells) w := fun ρ ha => by
  obtain ⟨z, hz1, hz2⟩ := Option.map_eq_some_iff.1 hz
  obtain ⟨i, hi, hz'⟩ := Option.bind_eq_some_iff.1 hz1
  have hparts : (parts.map fun p => (p.1, ρ p.2)).toList = vs := by
    rw [Array.toList_map]
    clear hf
    revert hp
    generalize parts.toList = l
    intro hp
    induction l generalizing vs with
    | nil => cases vs with | nil => rfl | cons _ _ => simp at hp
    | cons p l ih =>
      cases vs with
      | nil => simp at hp
      | cons q vs =>
        simp only [List.map_cons, List.cons.injEq, Prod.mk.injEq] at hp
        obtain ⟨⟨h1, h2⟩, h3⟩ := hp
        rw [List.map_cons, ih h3, h1, ha _ _ h2]
  have hzero : (zeroValue t).run P w = .ok z w := by simp [zeroValue, typeInfo, hi, hz', go_sem]
  subst hz2
  rw [Array.toList_map] at hparts
  simp only [execOp, Instr.build, hzero, Sem.run_bind, Result.andThen_ok, run_underlying ht, oT hs, Array.toList_map, hparts, hf, Sem.run_pure]
theorem CV {x lo : Operand} {t : TypeId} {s r : ByteArray} {lv : Int} {l : Nat} (hx : σ.ev x = some (.string s)) (hlo : σ.ev lo = some (.int .i64 lv)) (ht : P.underlying t = some .string) (hl : lv = (l : Int)) (hlh : l ≤ s.size) (hr : s.extract l s.size = r) :
    Ex P σ ⟨dst, .slice t x (some lo) none none, T, pos, after, g⟩ w (.string r) w := by subst hr; exact jI hx hlo ht hl hlh
theorem rE {x lo hi : Operand} {t : TypeId} {s r : ByteArray} {lv hv : Int} {l h : Nat} (hx : σ.ev x = some (.string s)) (hlo : σ.ev lo = some (.int .i64 lv)) (hhi : σ.ev hi = some (.int .i64 hv)) (ht : P.underlying t = some .string) (hl : lv = (l : Int)) (hh : hv = (h : Int)) (hlh : l ≤ h) (hhc : h ≤ s.size) (hr : s.extract l h = r) :
    Ex P σ ⟨dst, .slice t x (some lo) (some hi) none, T, pos, after, g⟩ w (.string r) w := by subst hr; exact CX hx hlo hhi ht hl hh hlh hhc
theorem iT {x i : Operand} {t : TypeId} {k : IntKind} {s : ByteArray} {z : Int} {n m : Nat} (hx : σ.ev x = some (.string s)) (hi : σ.ev i = some (.int k z)) (ht : P.underlying t = some .string) (hz : z = (n : Int)) (hn : n < s.size) (hr : sb s n = m) :
    Ex P σ ⟨dst, .index t x i, T, pos, after, g⟩ w (.int .u8 (m : Nat)) w := by subst hr; exact eE hx hi ht hz hn
theorem NG {x y : Operand} {t t' : TypeId} {m n r : Int} (hx : σ.ev x = some (.int .i64 m)) (hy : σ.ev y = some (.int .i64 n)) (hr : m + n = r) (h1 : -9223372036854775808 ≤ r) (h2 : r ≤ 9223372036854775807) :
    Ex P σ ⟨dst, .binOp .add t x y t', T, pos, after, g⟩ w (.int .i64 r) w := by subst hr; exact aK hx hy h1 h2
end
section
variable {P : Program} {N : NN} {R : iA} {σ : Env} {w : World} {ops : Array Oper} {rest : List Oper} {T : TypeId} {pos : String} {after : Array Edge}
theorem oR {t U : TypeId} {x y : Operand} {b : Nat} {f1 f2 f3 f4 v0 v1 g1 g2 g3 g4 v6 v7 : Value} (hx : σ.ev x = some (.pointer (some ⟨b, 2, none⟩))) (hy : σ.ev y = some (.agg #[f1, f2, f3, f4])) (hs : fQ P t = some 4)
    (h1 : AllOne [f1, f2, f3, f4]) (hb : w.heap[b]? = some (.cells #[v0, v1, g1, g2, g3, g4, v6, v7] U (0, 0)))
    (h : ∀ w', w'.heap[b]? = some (.cells #[v0, v1, f1, f2, f3, f4, v6, v7] U (0, 0)) → Evo [b] w w' → WL P N ops R rest σ w') :
    WL P N ops R (⟨none, .store t x y, T, pos, after, none⟩ :: rest) σ w := by
  refine lF (v := .agg #[f1, f2, f3, f4]) hx hy hs rfl (fun u hu => h1.mem u hu) hb (by show 2 + 4 ≤ 8; omega) ?_
  intro w' hb' he
  exact h w' hb' he
end
end Go.W
namespace Go.W
section
variable {P : Program} {σ : Env} {w : World} {dst : Option Nat} {T : TypeId} {pos : String} {after : Array Edge} {g : Option (Nat × Bool)}
theorem kZ {op : BinOp} {xt yt : TypeId} {x y : Operand} {a b r : Value} (hx : σ.ev x = some a) (hy : σ.ev y = some b) (h : ∀ w, (do eqGuard op xt x y a b; binOp op xt a b : Sem Value).run P w = .ok r w) : Ex P σ ⟨dst, .binOp op xt x y yt, T, pos, after, g⟩ w r w := fun ρ ha => by
  have h1 := h w
  simp only [Sem.run_bind] at h1
  simp only [execOp, ha _ _ hx, ha _ _ hy, Sem.run_bind, h1, Result.andThen_ok, Sem.run_pure]
end
end Go.W
namespace Go.Proofs.Ytidpigbinpaaeaa
open Go.RowKit Go.W
attribute [local irreducible] Decidable.decide
theorem orb192 : ∀ x, x < 32 → 192 ||| x = 192 + x := by decide
theorem orb224 : ∀ x, x < 16 → 224 ||| x = 224 + x := by decide
theorem orb240 : ∀ x, x < 8 → 240 ||| x = 240 + x := by decide
theorem r2 {m : Nat} (h : m < 2048) : 192 ||| (m / 2 ^ 6 % 256) = 192 + m / 64 := by
  rw [show (2 : Nat) ^ 6 = 64 from rfl, Nat.mod_eq_of_lt (show m / 64 < 256 by omega), orb192 _ (by omega)]
theorem r3 {m : Nat} (h : m < 65536) : 224 ||| (m / 2 ^ 12 % 256) = 224 + m / 4096 := by
  rw [show (2 : Nat) ^ 12 = 4096 from rfl, Nat.mod_eq_of_lt (show m / 4096 < 256 by omega), orb224 _ (by omega)]
theorem r4 {m : Nat} (h : m ≤ 1114111) : 240 ||| (m / 2 ^ 18 % 256) = 240 + m / 262144 := by
  rw [show (2 : Nat) ^ 18 = 262144 from rfl, Nat.mod_eq_of_lt (show m / 262144 < 256 by omega), orb240 _ (by omega)]
section
variable {P : Program} {σ : Env} {w : World} {dst : Option Nat} {T : TypeId} {pos : String} {after : Array Edge} {g : Option (Nat × Bool)}
end
def hx (d : Nat) : Nat := if d < 10 then 48 + d else 87 + d
theorem HF : Build Try.prog 55 #[(0, 1)] #[.int .i64 0] := ⟨_, .agg #[.int .i64 0], Try.underlying55, by kernel_rfl, rfl, fun w => by kernel_rfl⟩
abbrev flt (e : Int) : Value := .iface 55 (.agg #[iv e])
theorem eB {w : World} (e : Int) : Calls Try.prog 20 #[iv e] w (RetP (fun _ _ => False) (fun v w' => v = flt e ∧ Evo [] w w')) := by
  refine bE (N := 5) Try.func20 rfl rfl rfl ?_; refine aG (aB (gC rfl (cC (vs := [(0, _)]) HF rfl (cells := [_]) rfl) ?_)); refine gC rfl (UN rfl (fun w => by kernel_rfl)) ?_; refine PZ rfl ?_; exact VG ⟨rfl, (Evo.refl [] w)⟩
end Go.Proofs.Ytidpigbinpaaeaa
namespace Go.Proofs.Ytidpigbinpaaeaa
open Go.RowKit Go.W
def iE : Int → List (Int × Int) → Prop
  | _, [] => True
  | b, g :: l => b ≤ g.1 ∧ g.1 ≤ g.2 ∧ g.2 ≤ 1114111 ∧ iE (g.2 + 2) l
abbrev sO (l : List (Int × Int)) : Prop := iE 0 l
theorem eQ {c : Int} {g : Int × Int} {l : List (Int × Int)} : InR c (g :: l) ↔ (g.1 ≤ c ∧ c ≤ g.2) ∨ InR c l := by
  constructor
  · rintro ⟨x, hx, h⟩
    cases hx with
    | head => exact .inl h
    | tail _ hx => exact .inr ⟨x, hx, h⟩
  · rintro (h | ⟨x, hx, h⟩)
    · exact ⟨g, List.mem_cons_self .., h⟩
    · exact ⟨x, List.mem_cons_of_mem _ hx, h⟩
theorem jV (c : Int) : ¬ InR c [] := by rintro ⟨g, h, -⟩; cases h
theorem mS {c : Int} {l m : List (Int × Int)} : InR c (l ++ m) ↔ InR c l ∨ InR c m := by
  constructor
  · rintro ⟨x, hx, h⟩
    rcases List.mem_append.1 hx with hx | hx
    · exact .inl ⟨x, hx, h⟩
    · exact .inr ⟨x, hx, h⟩
  · rintro (⟨x, hx, h⟩ | ⟨x, hx, h⟩)
    · exact ⟨x, List.mem_append_left _ hx, h⟩
    · exact ⟨x, List.mem_append_right _ hx, h⟩
theorem jB {c : Int} {g : Int × Int} : InR c [g] ↔ g.1 ≤ c ∧ c ≤ g.2 := by
  rw [eQ]
  exact ⟨fun h => h.elim id (fun h => (jV c h).elim), .inl⟩
theorem EY {c : Int} {l m : List (Int × Int)} (h : l.Perm m) : InR c l ↔ InR c m := by
  constructor
  · rintro ⟨x, hx, h2⟩; exact ⟨x, h.mem_iff.1 hx, h2⟩
  · rintro ⟨x, hx, h2⟩; exact ⟨x, h.mem_iff.2 hx, h2⟩
theorem lV : ∀ {l : List (Int × Int)} {b c : Int}, iE b l → InR c l → b ≤ c ∧ c ≤ 1114111
  | [], b, c, _, h => (jV c h).elim
  | g :: l, b, c, hc, h => by
    rw [iE] at hc
    rcases eQ.1 h with h | h
    · omega
    · have := lV hc.2.2.2 h; omega
theorem DG : ∀ {l : List (Int × Int)} {a b : Int}, iE b l → a ≤ b → iE a l
  | [], a, b, _, _ => trivial
  | g :: l, a, b, h, hab => by
    rw [iE] at h ⊢
    exact ⟨by omega, h.2⟩
theorem BJ : ∀ {l m : List (Int × Int)} {b : Int}, iE b l → iE b m → (∀ c, InR c l ↔ InR c m) → l = m
  | [], [], b, _, _, _ => rfl
  | [], h :: m, b, hl, hm, he => by
    rw [iE] at hm
    exact (jV h.1 ((he h.1).2 (eQ.2 (.inl ⟨Int.le_refl _, hm.2.1⟩)))).elim
  | g :: l, [], b, hl, hm, he => by
    rw [iE] at hl
    exact (jV g.1 ((he g.1).1 (eQ.2 (.inl ⟨Int.le_refl _, hl.2.1⟩)))).elim
  | g :: l, h :: m, b, hl, hm, he => by
    rw [iE] at hl hm
    have h1 := (he g.1).1 (eQ.2 (.inl ⟨Int.le_refl _, hl.2.1⟩))
    have h2 := (he h.1).2 (eQ.2 (.inl ⟨Int.le_refl _, hm.2.1⟩))
    have e1 : g.1 = h.1 := by
      rcases eQ.1 h1 with h1 | h1 <;> rcases eQ.1 h2 with h2 | h2
      · omega
      · have := lV hl.2.2.2 h2; omega
      · have := lV hm.2.2.2 h1; omega
      · have := lV hl.2.2.2 h2; have := lV hm.2.2.2 h1; omega
    have e2 : g.2 = h.2 := by
      rcases Int.lt_trichotomy g.2 h.2 with c | c | c
      · have h3 := (he (g.2 + 1)).2 (eQ.2 (.inl (by omega)))
        rcases eQ.1 h3 with h3 | h3
        · omega
        · have := lV hl.2.2.2 h3; omega
      · exact c
      · have h3 := (he (h.2 + 1)).1 (eQ.2 (.inl (by omega)))
        rcases eQ.1 h3 with h3 | h3
        · omega
        · have := lV hm.2.2.2 h3; omega
    have e : g = h := Prod.ext e1 e2
    subst e
    have : l = m := BJ hl.2.2.2 hm.2.2.2 fun c => by
      constructor
      · intro hc
        have h3 := lV hl.2.2.2 hc
        rcases eQ.1 ((he c).1 (eQ.2 (.inr hc))) with h4 | h4
        · omega
        · exact h4
      · intro hc
        have h3 := lV hm.2.2.2 hc
        rcases eQ.1 ((he c).2 (eQ.2 (.inr hc))) with h4 | h4
        · omega
        · exact h4
    rw [this]
theorem vB : ∀ {l : List (Int × Int)} {b : Int} {x : Int × Int}, iE b l → b ≤ x.1 → x.1 ≤ x.2 → x.2 ≤ 1114111 → (∀ g, g ∈ l → g.2 + 1 < x.1) → iE b (l ++ [x])
  | [], b, x, _, h1, h2, h3, _ => by show iE b [x]; rw [iE]; exact ⟨h1, h2, h3, trivial⟩
  | g :: l, b, x, h, h1, h2, h3, h4 => by
    rw [iE] at h
    show iE b (g :: (l ++ [x]))
    rw [iE]
    have := h4 g (List.mem_cons_self ..)
    exact ⟨h.1, h.2.1, h.2.2.1, vB h.2.2.2 (by omega) h2 h3 (fun y hy => h4 y (List.mem_cons_of_mem _ hy))⟩
theorem vC : ∀ {l : List (Int × Int)} {b : Int} {x : Int × Int}, iE b (l ++ [x]) → iE b l ∧ b ≤ x.1 ∧ x.1 ≤ x.2 ∧ x.2 ≤ 1114111 ∧ ∀ g, g ∈ l → g.2 + 1 < x.1
  | [], b, x, h => by
    have h' : iE b [x] := h
    rw [iE] at h'
    exact ⟨trivial, h'.1, h'.2.1, h'.2.2.1, fun g hg => by cases hg⟩
  | g :: l, b, x, h => by
    have h' : iE b (g :: (l ++ [x])) := h
    rw [iE] at h'
    obtain ⟨h1, h2, h3, h4, h5⟩ := vC h'.2.2.2
    refine ⟨by rw [iE]; exact ⟨h'.1, h'.2.1, h'.2.2.1, h1⟩, by omega, h3, h4, fun y hy => ?_⟩
    cases hy with
    | head => omega
    | tail _ hy => exact h5 y hy
theorem GJ {out : List (Int × Int)} {g x : Int × Int} (h : sO (out ++ [g])) (h1 : g.1 ≤ x.1) (h2 : x.1 ≤ x.2) (h3 : x.2 ≤ 1114111) :
    (x.1 ≤ g.2 + 1 → sO (out ++ [(g.1, max g.2 x.2)]) ∧ ∀ c, InR c (out ++ [(g.1, max g.2 x.2)]) ↔ InR c (out ++ [g]) ∨ (x.1 ≤ c ∧ c ≤ x.2)) ∧
    (¬ x.1 ≤ g.2 + 1 → sO (out ++ [g] ++ [x]) ∧ ∀ c, InR c (out ++ [g] ++ [x]) ↔ InR c (out ++ [g]) ∨ (x.1 ≤ c ∧ c ≤ x.2)) := by
  obtain ⟨i1, i2, i3, i4, i5⟩ := vC h
  refine ⟨fun hx => ⟨vB i1 i2 (by show g.1 ≤ max g.2 x.2; omega) (by show max g.2 x.2 ≤ _; omega) i5, fun c => ?_⟩, fun hx => ⟨vB h (by omega) h2 h3 (fun y hy => ?_), fun c => ?_⟩⟩
  · rw [mS, mS, jB, jB]
    show _ ∨ (g.1 ≤ c ∧ c ≤ max g.2 x.2) ↔ _
    constructor
    · rintro (h | h)
      · exact .inl (.inl h)
      · by_cases hc : c ≤ g.2
        · exact .inl (.inr ⟨h.1, hc⟩)
        · exact .inr (by omega)
    · rintro ((h | h) | h)
      · exact .inl h
      · exact .inr (by omega)
      · exact .inr (by omega)
  · rcases List.mem_append.1 hy with hy | hy
    · have := i5 y hy; omega
    · rw [List.mem_singleton.1 hy]; omega
  · rw [mS, jB]
noncomputable def jC (S : Int → Prop) : List (Int × Int) := open Classical in if h : ∃ l, sO l ∧ ∀ c, InR c l ↔ S c then Classical.choose h else []
theorem pH {S : Int → Prop} {l : List (Int × Int)} (h : sO l) (h2 : ∀ c, InR c l ↔ S c) : jC S = l := by
  have hx : ∃ l, sO l ∧ ∀ c, InR c l ↔ S c := ⟨l, h, h2⟩
  unfold jC
  rw [dif_pos hx]
  have h3 := Classical.choose_spec hx
  exact BJ h3.1 h fun c => (h3.2 c).trans (h2 c).symm
theorem yG {a b : Int} (h0 : 0 ≤ a) (h1 : a ≤ b) (h2 : b ≤ 1114111) : sO [(a, b)] := by
  show iE 0 [(a, b)]
  rw [iE]; exact ⟨h0, h1, h2, trivial⟩
theorem PP {c : Int} (h0 : 0 ≤ c) (h1 : c ≤ 1114111) : jC (fun x => x = c) = [(c, c)] :=
  pH (yG h0 (Int.le_refl _) h1) fun x => by rw [jB]; show c ≤ x ∧ x ≤ c ↔ x = c; omega
def rB : Int → List (Int × Int) → List (Int × Int)
  | b, [] => if b ≤ 1114111 then [(b, 1114111)] else []
  | b, g :: l => (if b < g.1 then [(b, g.1 - 1)] else []) ++ rB (g.2 + 1) l
theorem CR : ∀ {l : List (Int × Int)} {b d : Int}, 0 ≤ b → d ≤ b → iE b l → iE d (rB b l) ∧ ∀ c, InR c (rB b l) ↔ b ≤ c ∧ c ≤ 1114111 ∧ ¬ InR c l
  | [], b, d, h0, hd, _ => by
    rw [rB]
    by_cases h : b ≤ 1114111
    · rw [if_pos h]
      refine ⟨by rw [iE]; exact ⟨hd, h, Int.le_refl _, trivial⟩, fun c => ?_⟩
      rw [jB]
      exact ⟨fun h => ⟨h.1, h.2, jV c⟩, fun h => ⟨h.1, h.2.1⟩⟩
    · rw [if_neg h]
      exact ⟨trivial, fun c => ⟨fun h => (jV c h).elim, fun h => by omega⟩⟩
  | g :: l, b, d, h0, hd, hc => by
    rw [iE] at hc
    rw [rB]
    by_cases h : b < g.1
    · rw [if_pos h]
      obtain ⟨i1, i2⟩ := CR (b := g.2 + 1) (d := g.1 + 1) (by omega) (by omega) (DG hc.2.2.2 (by omega))
      refine ⟨?_, fun c => ?_⟩
      · show iE d ((b, g.1 - 1) :: rB (g.2 + 1) l)
        rw [iE]; exact ⟨hd, by show b ≤ g.1 - 1; omega, by show g.1 - 1 ≤ _; omega, by show iE (g.1 - 1 + 2) _; rw [show g.1 - 1 + 2 = g.1 + 1 by omega]; exact i1⟩
      · rw [mS, jB, i2, eQ]
        show (b ≤ c ∧ c ≤ g.1 - 1) ∨ _ ↔ _
        constructor
        · rintro (h3 | h3)
          · exact ⟨h3.1, by omega, fun h4 => by rcases h4 with h4 | h4; omega; (have := lV hc.2.2.2 h4; omega)⟩
          · exact ⟨by omega, h3.2.1, fun h4 => by rcases h4 with h4 | h4; omega; exact h3.2.2 h4⟩
        · rintro ⟨h3, h4, h5⟩
          by_cases h6 : c ≤ g.1 - 1
          · exact .inl ⟨h3, h6⟩
          · refine .inr ⟨?_, h4, fun h7 => h5 (.inr h7)⟩
            by_cases h8 : c ≤ g.2
            · exact (h5 (.inl ⟨by omega, h8⟩)).elim
            · omega
    · rw [if_neg h, List.nil_append]
      obtain ⟨i1, i2⟩ := CR (b := g.2 + 1) (d := d) (by omega) (by omega) (DG hc.2.2.2 (by omega))
      refine ⟨i1, fun c => ?_⟩
      rw [i2, eQ]
      constructor
      · rintro ⟨h3, h4, h5⟩
        exact ⟨by omega, h4, fun h6 => by rcases h6 with h6 | h6; omega; exact h5 h6⟩
      · rintro ⟨h3, h4, h5⟩
        refine ⟨?_, h4, fun h6 => h5 (.inr h6)⟩
        by_cases h8 : c ≤ g.2
        · exact (h5 (.inl ⟨by omega, h8⟩)).elim
        · omega
structure Fl where
  fold : Bool
  lines : Bool
  dots : Bool
  lazy : Bool
structure PS where
  pos : Nat
  now : Fl
  opn : Nat
  names : List ByteArray
abbrev PX (α : Type) := Except Int (α × PS)
abbrev emp : ByteArray := ByteArray.mk #[]
def rxK (k : Int) : Rx := .mk k 0 [] 0 0 false 0 emp []
def lD (c : Int) : Rx := .mk 2 c [] 0 0 false 0 emp []
def nC (l : List (Int × Int)) : Rx := .mk 3 0 l 0 0 false 0 emp []
def sQ (k : Int) (l : List Rx) : Rx := .mk k 0 [] 0 0 false 0 emp l
def jD (lo hi : Int) (z : Bool) (x : Rx) : Rx := .mk 6 0 [] lo hi z 0 emp [x]
def kC (n : Int) (nm : ByteArray) (x : Rx) : Rx := .mk 7 0 [] 0 0 false n nm [x]
def qN (k : Int) : List Rx → Rx
  | [] => rxK 1
  | [x] => x
  | l => sQ k l
noncomputable def iZ (S : Int → Prop) : Rx := match jC S with
  | [(a, b)] => if a = b then lD a else nC [(a, b)]
  | l => nC l
def oD (S : Int → Prop) : Int → Prop := fun c => S c ∨ (97 ≤ c ∧ c ≤ 122 ∧ S (c - 32)) ∨ (65 ≤ c ∧ c ≤ 90 ∧ S (c + 32))
def uT (S : Int → Prop) : Int → Prop := fun c => 0 ≤ c ∧ c ≤ 1114111 ∧ ¬ S c
noncomputable def mA (f : Fl) (c : Int) : Rx := iZ (if f.fold = true then oD (fun x => x = c) else fun x => x = c)
def isB (s : ByteArray) (i b : Nat) : Prop := i < s.size ∧ sb s i = b
instance (s : ByteArray) (i b : Nat) : Decidable (isB s i b) := by unfold isB; infer_instance
def digN (c : Nat) : Prop := 48 ≤ c ∧ c ≤ 57
instance (c : Nat) : Decidable (digN c) := by unfold digN; infer_instance
def iI (s : ByteArray) : Nat → Nat → Int → Int × Nat
  | 0, i, n => (n, i)
  | f + 1, i, n => if i < s.size ∧ digN (sb s i) then iI s f (i + 1) (min (n * 10 + ((sb s i : Int) - 48)) 1001) else (n, i)
def lG (r : ByteArray) : Int × Int × Nat :=
  if sb r 0 = 42 then (0, -1, 1) else if sb r 0 = 43 then (1, -1, 1) else if sb r 0 = 63 then (0, 1, 1) else if sb r 0 ≠ 123 then (0, 0, 0)
  else if 1 < (iI r r.size 1 0).2 ∧ isB r (iI r r.size 1 0).2 44 then
    if isB r (iI r r.size ((iI r r.size 1 0).2 + 1) 0).2 125 then
      ((iI r r.size 1 0).1, (if (iI r r.size ((iI r r.size 1 0).2 + 1) 0).2 = (iI r r.size 1 0).2 + 1 then -1 else (iI r r.size ((iI r r.size 1 0).2 + 1) 0).1), (iI r r.size ((iI r r.size 1 0).2 + 1) 0).2 + 1)
    else (0, 0, 0)
  else if (iI r r.size 1 0).2 = 1 ∨ ¬ isB r (iI r r.size 1 0).2 125 then (0, 0, 0)
  else ((iI r r.size 1 0).1, (iI r r.size 1 0).1, (iI r r.size 1 0).2 + 1)
def oM (c : Nat) : Option Nat := if 48 ≤ c ∧ c ≤ 57 then some (c - 48) else if 97 ≤ c ∧ c ≤ 102 then some (c - 97 + 10) else if 65 ≤ c ∧ c ≤ 70 then some (c - 65 + 10) else none
def gA (s : ByteArray) (i : Nat) : Except Int (Nat × Nat) := if i < s.size then (match oM (sb s i) with | some d => .ok (d, i + 1) | none => .error 83) else .error 83
def lY (s : ByteArray) : Nat → Nat → Nat → Except Int (Nat × Nat)
  | 0, n, i => .error 83
  | f + 1, n, i => if isB s i 125 then .ok (n, i + 1) else match gA s i with
    | .error e => .error e
    | .ok (d, j) => if 1114111 < n * 16 + d then .error 83 else lY s f (n * 16 + d) j
def pT (s : ByteArray) (i : Nat) : Except Int (Nat × Nat) :=
  if isB s i 123 then (match gA s (i + 1) with | .error e => .error e | .ok (d, j) => lY s (s.size + 1 - j) d j)
  else match gA s i with
    | .error e => .error e
    | .ok (a, j) => match gA s j with | .error e => .error e | .ok (b, k) => .ok (a * 16 + b, k)
def vZ (c : Nat) : Option Nat := if c = 97 then some 7 else if c = 102 then some 12 else if c = 116 then some 9 else if c = 110 then some 10 else if c = 114 then some 13 else if c = 118 then some 11 else none
def nT (s : ByteArray) (i : Nat) : Except Int (Nat × Nat) :=
  if s.size ≤ i + 1 then .error 83 else match vZ (sb s (i + 1)) with
    | some v => .ok (v, i + 2)
    | none => if sb s (i + 1) = 120 then pT s (i + 2) else if 128 ≤ sb s (i + 1) ∨ (fR (sb s (i + 1)) ∧ sb s (i + 1) ≠ 95) then .error 83 else .ok (sb s (i + 1), i + 2)
def rs (l : List (Int × Int)) : Int → Prop := fun c => InR c l
def vY (c : Nat) : Option (Int → Prop) :=
  if c = 100 then some (rs [(48, 57)]) else if c = 115 then some (rs [(9, 10), (12, 13), (32, 32)]) else if c = 119 then some (rs [(48, 57), (65, 90), (95, 95), (97, 122)])
  else if c = 68 then some (uT (rs [(48, 57)])) else if c = 83 then some (uT (rs [(9, 10), (12, 13), (32, 32)])) else if c = 87 then some (uT (rs [(48, 57), (65, 90), (95, 95), (97, 122)])) else none
def asc (l : List Nat) : ByteArray := oP l
def iJ (n : ByteArray) : Option (Int → Prop) :=
  if n = asc [97, 108, 110, 117, 109] then some (rs [(48, 57), (65, 90), (97, 122)])
  else if n = asc [97, 108, 112, 104, 97] then some (rs [(65, 90), (97, 122)])
  else if n = asc [97, 115, 99, 105, 105] then some (rs [(0, 127)])
  else if n = asc [98, 108, 97, 110, 107] then some (rs [(9, 9), (32, 32)])
  else if n = asc [99, 110, 116, 114, 108] then some (rs [(0, 31), (127, 127)])
  else if n = asc [100, 105, 103, 105, 116] then some (rs [(48, 57)])
  else if n = asc [103, 114, 97, 112, 104] then some (rs [(33, 126)])
  else if n = asc [108, 111, 119, 101, 114] then some (rs [(97, 122)])
  else if n = asc [112, 114, 105, 110, 116] then some (rs [(32, 126)])
  else if n = asc [112, 117, 110, 99, 116] then some (rs [(33, 47), (58, 64), (91, 96), (123, 126)])
  else if n = asc [115, 112, 97, 99, 101] then some (rs [(9, 13), (32, 32)])
  else if n = asc [117, 112, 112, 101, 114] then some (rs [(65, 90)])
  else if n = asc [119, 111, 114, 100] then some (rs [(48, 57), (65, 90), (95, 95), (97, 122)])
  else if n = asc [120, 100, 105, 103, 105, 116] then some (rs [(48, 57), (65, 70), (97, 102)]) else none
def lH (s : ByteArray) (i : Nat) : Except Int (Int × Nat) :=
  if sb s i = 92 then (match nT s i with | .ok (v, j) => .ok ((v : Int), j) | .error e => .error e) else .ok ((bH s i).1, i + (bH s i).2)
def jU (s : ByteArray) (a b : Nat) : Nat → Nat → Option Nat
  | 0, _ => none
  | f + 1, j => if j + 1 < s.size ∧ sb s j = a ∧ sb s (j + 1) = b then some j else jU s a b f (j + 1)
def unS (S T : Int → Prop) : Int → Prop := fun c => S c ∨ T c
def rgS (lo hi : Int) : Int → Prop := fun c => lo ≤ c ∧ c ≤ hi
abbrev PR := Except Int ((Int → Prop) × Nat)
noncomputable def iF (s : ByteArray) (i : Nat) : PR := match lH s i with
  | .error e => .error e
  | .ok (lo, j) => if isB s j 45 ∧ j + 1 < s.size ∧ sb s (j + 1) ≠ 93 then
      (match lH s (j + 1) with | .error e => .error e | .ok (hi, k) => if hi < lo then .error 81 else .ok (rgS lo hi, k))
    else .ok (rgS lo lo, j)
noncomputable def jZ (s : ByteArray) (i : Nat) : PR :=
  if i + 1 < s.size ∧ sb s i = 92 then (match vY (sb s (i + 1)) with | some S => .ok (S, i + 2) | none => iF s i) else iF s i
noncomputable def jH (s : ByteArray) (i : Nat) : PR :=
  if isB s i 91 ∧ isB s (i + 1) 58 then
    (match jU s 58 93 s.size (i + 2) with
    | none => jZ s i
    | some j =>
      if i + 2 < j ∧ sb s (i + 2) = 94 then (match iJ (s.extract (i + 3) j) with | none => .error 81 | some S => .ok (uT S, j + 2))
      else (match iJ (s.extract (i + 2) j) with | none => .error 81 | some S => .ok (S, j + 2)))
  else jZ s i
noncomputable def fX (s : ByteArray) : Nat → Bool → (Int → Prop) → Nat → PR
  | 0, _, _, _ => .error 81
  | f + 1, fst, S, i => if s.size ≤ i then .error 81 else if fst = false ∧ sb s i = 93 then .ok (S, i + 1) else match jH s i with
    | .error e => .error e
    | .ok (T, j) => fX s f false (unS S T) j
noncomputable def kW (s : ByteArray) (fl : Fl) (i : Nat) : Except Int (Rx × Nat) :=
  match fX s (s.size + 1) true (fun _ => False) (if isB s i 94 then i + 1 else i) with
  | .error e => .error e
  | .ok (S, j) => .ok (iZ (if isB s i 94 then uT (if fl.fold = true then oD S else S) else if fl.fold = true then oD S else S), j)
structure Opn where
  size : Nat
  name : ByteArray
  thn : Fl
  capt : Bool
  sett : Bool
  err : Int
def gU (s : ByteArray) : Nat → Nat → Nat
  | 0, j => j
  | f + 1, j => if j < s.size ∧ fR (sb s j) then gU s f (j + 1) else j
def nH (s : ByteArray) (i h : Nat) (fl : Fl) : Opn :=
  if gU s s.size (i + h) = i + h ∨ ¬ isB s (gU s s.size (i + h)) 62 then ⟨0, emp, fl, false, false, 85⟩
  else ⟨gU s s.size (i + h) + 1 - i, s.extract (i + h) (gU s s.size (i + h)), fl, true, false, 0⟩
def gO (s : ByteArray) (i : Nat) : Nat → Nat → Bool → Int → Bool → Fl → Opn
  | 0, _, _, _, _, fl => ⟨0, emp, fl, false, false, 84⟩
  | f + 1, j, b, n, m, fl =>
    if s.size ≤ j then ⟨0, emp, fl, false, false, 84⟩
    else if sb s j = 105 then gO s i f (j + 1) b (n + 1) m { fl with fold := b }
    else if sb s j = 109 then gO s i f (j + 1) b (n + 1) m { fl with lines := b }
    else if sb s j = 115 then gO s i f (j + 1) b (n + 1) m { fl with dots := b }
    else if sb s j = 85 then gO s i f (j + 1) b (n + 1) m { fl with lazy := b }
    else if sb s j = 45 then (if m = true then ⟨0, emp, fl, false, false, 84⟩ else gO s i f (j + 1) false 0 true fl)
    else if sb s j = 58 ∨ sb s j = 41 then ⟨j + 1 - i, emp, fl, false, decide (sb s j = 41), if n = 0 then 84 else 0⟩
    else ⟨0, emp, fl, false, false, 84⟩
def eX (s : ByteArray) (i : Nat) (fl : Fl) : Opn :=
  if ¬ (isB s i 40 ∧ isB s (i + 1) 63) then ⟨1, emp, fl, true, false, 0⟩
  else if isB s (i + 2) 80 ∧ isB s (i + 3) 60 then nH s i 4 fl
  else if isB s (i + 2) 60 then nH s i 3 fl
  else if isB s (i + 2) 58 then ⟨3, emp, fl, false, false, 0⟩
  else gO s i s.size (i + 2) true 0 false fl
abbrev PL := PX (List Rx)
open Classical in
noncomputable def pU (s : ByteArray) (ex : PS → PX Rx) (st : PS) : PL :=
  let o := eX s st.pos st.now
  if o.err = 0 ∧ o.sett = true then .ok ([], { st with pos := st.pos + o.size, now := o.thn })
  else if st.opn = 250 then .error 3
  else if o.err ≠ 0 then .error o.err
  else if o.capt = true ∧ (st.names.length = 100 ∨ (o.name ≠ emp ∧ o.name ∈ st.names)) then .error 85
  else match ex ⟨st.pos + o.size, o.thn, st.opn + 1, if o.capt = true then st.names ++ [o.name] else st.names⟩ with
    | .error e => .error e
    | .ok (x, st2) => if isB s st2.pos 41 then
        .ok ([if o.capt = true then kC ((st.names.length : Int) + 1) o.name x else x], { st2 with pos := st2.pos + 1, opn := st2.opn - 1, now := st.now })
      else .error 80
noncomputable def jY (s : ByteArray) (fl : Fl) (e : Nat) : Nat → List Rx → Nat → List Rx × Nat
  | 0, l, i => (l, i)
  | f + 1, l, i => if i < e then jY s fl e f (l ++ [mA fl (bH s i).1]) (i + (bH s i).2) else (l, i)
noncomputable def nG (s : ByteArray) (st : PS) : PL := match jU s 92 69 s.size (st.pos + 2) with
  | some e => .ok ((jY s st.now e s.size [] (st.pos + 2)).1, { st with pos := (jY s st.now e s.size [] (st.pos + 2)).2 + 2 })
  | none => .ok ((jY s st.now s.size s.size [] (st.pos + 2)).1, { st with pos := (jY s st.now s.size s.size [] (st.pos + 2)).2 })
noncomputable def fN (s : ByteArray) (st : PS) : PL :=
  if s.size ≤ st.pos + 1 then .error 83
  else if sb s (st.pos + 1) = 65 then .ok ([rxK 8], { st with pos := st.pos + 2 })
  else if sb s (st.pos + 1) = 122 then .ok ([rxK 9], { st with pos := st.pos + 2 })
  else if sb s (st.pos + 1) = 98 then .ok ([rxK 12], { st with pos := st.pos + 2 })
  else if sb s (st.pos + 1) = 66 then .ok ([rxK 13], { st with pos := st.pos + 2 })
  else if sb s (st.pos + 1) = 81 then nG s st
  else match vY (sb s (st.pos + 1)) with
    | some S => .ok ([iZ S], { st with pos := st.pos + 2 })
    | none => match nT s st.pos with
      | .error e => .error e
      | .ok (v, j) => .ok ([mA st.now v], { st with pos := j })
noncomputable def jG (s : ByteArray) (st : PS) : PL :=
  .ok ([if (bH s st.pos).1 = 46 then (if st.now.dots = true then iZ (rs [(0, 1114111)]) else iZ (rs [(0, 9), (11, 1114111)]))
    else if (bH s st.pos).1 = 94 then rxK (if st.now.lines = true then 10 else 8)
    else if (bH s st.pos).1 = 36 then rxK (if st.now.lines = true then 11 else 9)
    else mA st.now (bH s st.pos).1], { st with pos := st.pos + (bH s st.pos).2 })
noncomputable def dZ (s : ByteArray) (ex : PS → PX Rx) (st : PS) : PL :=
  if sb s st.pos = 40 then pU s ex st
  else if sb s st.pos = 91 then (match kW s st.now (st.pos + 1) with | .error e => .error e | .ok (x, j) => .ok ([x], { st with pos := j }))
  else if sb s st.pos = 92 then fN s st
  else jG s st
noncomputable def iB (s : ByteArray) (ex : PS → PX Rx) : Nat → List Rx → Bool → PS → PX Rx
  | 0, l, ah, st => .ok (qN 4 l, st)
  | f + 1, l, ah, st =>
    if s.size ≤ st.pos ∨ sb s st.pos = 124 ∨ sb s st.pos = 41 then .ok (qN 4 l, st)
    else
      let r := lG (s.extract st.pos s.size)
      if r.2.2 = 0 then (match dZ s ex st with
        | .error e => .error e
        | .ok (g, st2) => iB s ex f (l ++ g) (decide (0 < g.length)) st2)
      else if ah = false ∨ 1000 < r.1 ∨ 1000 < r.2.1 ∨ (0 ≤ r.2.1 ∧ r.2.1 < r.1) then .error 82
      else if isB s (st.pos + r.2.2) 63 then iB s ex f (l.dropLast ++ [jD r.1 r.2.1 (!st.now.lazy) (l.getLastD (rxK 1))]) false { st with pos := st.pos + r.2.2 + 1 }
      else iB s ex f (l.dropLast ++ [jD r.1 r.2.1 st.now.lazy (l.getLastD (rxK 1))]) false { st with pos := st.pos + r.2.2 }
noncomputable def mO (s : ByteArray) (ex : PS → PX Rx) : Nat → List Rx → PS → PX Rx
  | 0, l, st => .ok (qN 5 l, st)
  | f + 1, l, st => if isB s st.pos 124 then (match iB s ex (s.size + 1) [] false { st with pos := st.pos + 1 } with
      | .error e => .error e
      | .ok (x, st2) => mO s ex f (l ++ [x]) st2)
    else .ok (qN 5 l, st)
noncomputable def kE (s : ByteArray) (ex : PS → PX Rx) (st : PS) : PX Rx := match iB s ex (s.size + 1) [] false st with
  | .error e => .error e
  | .ok (x, st2) => mO s ex (s.size + 1) [x] st2
noncomputable def kS (s : ByteArray) : Nat → PS → PX Rx
  | 0 => fun st => kE s (fun _ => .error 3) st
  | n + 1 => fun st => kE s (kS s n) st
noncomputable def eC (s : ByteArray) : Except Int Rx := open Classical in
  if 4096 < s.size then .error 1 else if ¬ ∃ N, Utf s N then .error 4
  else match kS s 250 ⟨0, ⟨false, false, false, false⟩, 0, []⟩ with
    | .error e => .error e
    | .ok (x, st) => if st.pos < s.size then .error 80 else .ok x
end Go.Proofs.Ytidpigbinpaaeaa
namespace Go.Proofs.Ytidpigbinpaaeaa
open Go.RowKit Go.W
attribute [local irreducible] Decidable.decide
theorem cV : cX Try.prog 61 0 = some 0 := by kernel_rfl
theorem bF : cX Try.prog 61 1 = some 1 := by kernel_rfl
abbrev rdc (s : ByteArray) (st : PS) (a : Option Addr) (c : Nat) : Array Value := #[.string s, iv (st.pos : Nat), .bool st.now.fold, .bool st.now.lines, .bool st.now.dots, .bool st.now.lazy, iv (st.opn : Nat), .slice a st.names.length c]
structure RdAt (w : World) (b : Nat) (s : ByteArray) (st : PS) (a : Option Addr) (c : Nat) (ob : Option Nat) : Prop where
  blk : w.heap[b]? = some (.cells (rdc s st a c) 61 (0, 0))
  own : OwnS w 9 1 a st.names.length c (st.names.map sv) ob
  ne : ∀ g, ob = some g → g ≠ b
theorem RdAt.ap {w : World} {b : Nat} {s : ByteArray} {st : PS} {a : Option Addr} {c : Nat} {ob : Option Nat} (h : RdAt w b s st a c ob) : Apart (some b) ob := fun g h1 h2 => by cases h1; exact h.ne b h2 rfl
def adv (st : PS) (n : Nat) : PS := { st with pos := st.pos + n }
theorem mQ {w : World} {b : Nat} {s : ByteArray} {st : PS} {a : Option Addr} {c : Nat} {ob : Option Nat} (hR : RdAt w b s st a c ob) (hs : s.size ≤ 1000000) (ch : Nat) (hc : ch < 256) :
    Calls Try.prog 26 #[.pointer (some ⟨b, 0, none⟩), .int .u8 (ch : Nat)] w (Ret fun v w' => v = .bool (decide (isB s st.pos ch)) ∧ Evo [b] w w' ∧ RdAt w' b s (if isB s st.pos ch then adv st 1 else st) a c ob) := by
  have hap := hR.ap; refine bE (N := 35) Try.func26 rfl rfl rfl ?_; refine csr (wan (aI (aI ?_))); refine eH (by kernel_rfl) (by kernel_rfl) ?_; refine bD (fun _ A => aX rfl) ?_; refine bD (fun _ A => aF rfl) ?_; refine bD (fun _ A => aD rfl bF) ?_; refine bD (fun _ A => aS rfl aT (aY (A.blk0 hR.blk) rfl)) ?_; refine bD (fun _ A => aX rfl) ?_; refine bD (fun _ A => aF rfl) ?_; refine bD (fun _ A => aD rfl cV) ?_; refine bD (fun _ A => aS rfl dC (aY (A.blk0 hR.blk) rfl)) ?_; refine bD (fun _ A => bR rfl Try.underlying9 rfl) ?_; refine bD (fun _ A => cU rfl rfl) ?_; refine bD (fun _ A => aX rfl) ?_; refine jT (t := 15) rfl (fun B => ?_) (fun B => ?_)
  ·have hlt : st.pos < s.size := by omega
   refine qlg ?_; refine bD (fun _ A => aX rfl) ?_; refine qlg ?_; refine bD (fun _ A => aF rfl) ?_; refine qlg ?_; refine bD (fun _ A => aD rfl cV) ?_; refine qlg ?_; refine bD (fun _ A => aS rfl dC (aY (A.blk0 hR.blk) rfl)) ?_; refine qlg ?_; refine bD (fun _ A => aX rfl) ?_; refine qlg ?_; refine bD (fun _ A => aF rfl) ?_; refine qlg ?_; refine bD (fun _ A => aD rfl bF) ?_; refine qlg ?_; refine bD (fun _ A => aS rfl aT (aY (A.blk0 hR.blk) rfl)) ?_; refine qlg ?_; refine bD (fun _ A => eE (n := st.pos) rfl rfl Try.underlying9 rfl hlt) ?_; refine qlg ?_; refine bD (fun _ A => aX rfl) ?_; refine qlg ?_; refine bD (fun _ A => lL rfl rfl) ?_; refine bD (fun _ A => fV rfl rfl) ?_; refine eL (fun V A => aC ?_); have H := (Evo.refl [b] w).then A; have F := A.blk0 hR.blk; have I := hR.own.evo0 A; refine aW rfl (fun D => ?_) (fun D => ?_)
   ·refine csr (aB (aA (aF rfl) (wfl rfl bF rfl aT F rfl ?_))); refine aA (aK rfl rfl (by omega) (by omega)) ?_; refine aA (aF rfl) (aA (aD rfl bF) ?_); refine bB rfl rfl (by first | rfl | assumption) bY F rfl fun w6 J L => ?_; have M := I.evo L hap.symm.own1
    try simp only [cH, Nat.reduceAdd] at J
    refine wnn (csr (wan (aH (aE (br1 ?_))))); have hb : isB s st.pos ch := ⟨hlt, by omega⟩; refine ⟨congrArg Value.bool (decide_eq_true hb).symm, (H.step L (fun y hy => .inl hy)), ?_⟩
    rw [if_pos hb]; exact ⟨J, M, hR.ne⟩
   refine aM (aC (csr (wan (aH (br1 ?_)))))
   have hb : ¬ isB s st.pos ch := fun h => by first | exact B (by have := h.1; omega) | exact D (by have := h.2; omega)
   refine ⟨congrArg Value.bool (decide_eq_false hb).symm, H, ?_⟩
   rw [if_neg hb]; exact ⟨F, I, hR.ne⟩
  refine qln ?_; refine qln ?_; refine qln ?_; refine qln ?_; refine qln ?_; refine qln ?_; refine qln ?_; refine qln ?_; refine qln ?_; refine qln ?_; refine qln ?_; refine bD (fun _ A => gI rfl rfl) ?_; refine eL (fun V A => aC ?_); have O := A.blk0 hR.blk; have U := hR.own.evo0 A; refine cK rfl ?_; refine aM (aC (csr (wan (aH (br1 ?_)))))
  have hb : ¬ isB s st.pos ch := fun h => by first | exact B (by have := h.1; omega) | exact D (by have := h.2; omega)
  refine ⟨congrArg Value.bool (decide_eq_false hb).symm, ((Evo.refl [b] w).then A), ?_⟩
  rw [if_neg hb]; exact ⟨O, U, hR.ne⟩
theorem cQ : dY Try.prog 20 := ⟨_, Try.func20, by kernel_rfl, by kernel_rfl⟩
theorem sN {r : Int} (h0 : -2147483648 ≤ r) (h1 : r ≤ 2147483647) : IntKind.i64.min ≤ r ∧ r ≤ IntKind.i64.max := by
  constructor <;> simp [IntKind.min, IntKind.max, IntKind.signed, IntKind.bits] <;> omega
theorem hexd_no {s : ByteArray} {i : Nat} (h : ¬ i < s.size) : gA s i = .error 83 := by unfold gA; rw [if_neg h]
theorem nM {s : ByteArray} {i d : Nat} (h : i < s.size) (hd : oM (sb s i) = some d) : gA s i = .ok (d, i + 1) := by unfold gA; rw [if_pos h, hd]
theorem kG {s : ByteArray} {i : Nat} (h : i < s.size) (hd : oM (sb s i) = none) : gA s i = .error 83 := by unfold gA; rw [if_pos h, hd]
theorem tD {z : Int} {d : Nat} (h : z = d) : Value.int .i64 z = iv (d : Nat) := by rw [h]
theorem oB {w : World} {b : Nat} {s : ByteArray} {st : PS} {a : Option Addr} {c : Nat} {ob : Option Nat} (hR : RdAt w b s st a c ob) (hs : s.size ≤ 1000000) :
    Calls Try.prog 77 #[.pointer (some ⟨b, 0, none⟩)] w (RetP (fun v w' => ∃ d, gA s st.pos = .ok (d, st.pos + 1) ∧ v = iv (d : Nat) ∧ Evo [b] w w' ∧ RdAt w' b s (adv st 1) a c ob) (fun v w' => gA s st.pos = .error 83 ∧ v = flt 83 ∧ Evo [b] w w')) := by
  have hap := hR.ap; have hb9 := iY s st.pos; refine bE (N := 63) Try.func77 rfl rfl rfl ?_; refine csr (wan (aI (aI ?_))); refine eH (by kernel_rfl) (by kernel_rfl) ?_; refine bD (fun _ D => aX rfl) ?_; refine bD (fun _ D => aF rfl) ?_; refine bD (fun _ D => aD rfl bF) ?_; refine bD (fun _ D => aS rfl aT (aY (D.blk0 hR.blk) rfl)) ?_; refine bD (fun _ D => aX rfl) ?_; refine bD (fun _ D => aF rfl) ?_; refine bD (fun _ D => aD rfl cV) ?_; refine bD (fun _ D => aS rfl dC (aY (D.blk0 hR.blk) rfl)) ?_; refine bD (fun _ D => bR rfl Try.underlying9 rfl) ?_; refine bD (fun _ D => cU rfl rfl) ?_; refine eL (fun a3 D => aC ?_); have V := (Evo.refl [b] w).then D; have O := D.blk0 hR.blk; refine aW rfl (fun a0 => ?_) (fun a0 => ?_)
  ·have hlt : st.pos < s.size := by omega
   refine aI ?_; refine eH (by kernel_rfl) (by kernel_rfl) ?_; refine bD (fun _ B => aX rfl) ?_; refine bD (fun _ B => aF rfl) ?_; refine bD (fun _ B => aD rfl cV) ?_; refine bD (fun _ B => aS rfl dC (aY (B.blk0 O) rfl)) ?_; refine bD (fun _ B => aX rfl) ?_; refine bD (fun _ B => aF rfl) ?_; refine bD (fun _ B => aD rfl bF) ?_; refine bD (fun _ B => aS rfl aT (aY (B.blk0 O) rfl)) ?_; refine bD (fun _ B => eE (n := st.pos) rfl rfl Try.underlying9 rfl hlt) ?_; refine bD (fun _ B => eG rfl) ?_; refine eL (fun a4 B => aC ?_); refine csr (aB (aA (aF rfl) (wfl rfl bF rfl aT (B.blk0 O) rfl ?_))); refine aA (aK rfl rfl (by omega) (by omega)) ?_; refine aA (aF rfl) (aA (aD rfl bF) ?_); refine bB rfl rfl (by first | rfl | assumption) bY (B.blk0 O) rfl fun a5 F U => ?_; have A := (V.then B).step U (fun y hy => .inl hy); have H := ((hR.own.evo0 D).evo0 B).evo U hap.symm.own1
   try simp only [cH, Nat.reduceAdd] at F
   refine wnn (bJ (csr (aB (aA (eF rfl rfl) ?_)))); refine aB (bC (t := 33) rfl (fun a1 => ?_) (fun a1 => ?_))
   ·refine aO (aB (aO (aA (eW rfl rfl) ?_))); refine bQ (wan (aW rfl (fun a2 => ?_) (fun a2 => ?_)))
    ·refine csr (aB ?_); refine aA (kH rfl rfl (by omega) (by omega)) ?_; refine aA (iH rfl Try.underlying5 Try.underlying3 (sN (by omega) (by omega)).1 (sN (by omega) (by omega)).2) ?_; refine wan (aH (aN (aE (cE (br1 ?_)))))
     exact ⟨_, nM hlt (by unfold oM; rw [if_pos (by omega)]), tD (by omega), A, F, H, hR.ne⟩
    refine csr (aB (aA (eF rfl rfl) ?_)); refine aB (bC (t := 43) rfl (fun L => ?_) (fun L => ?_))
    ·refine aO (aB (aO (aA (eW rfl rfl) ?_))); refine bQ (wan (aW rfl (fun M => ?_) (fun M => ?_)))
     ·refine csr (aB ?_); refine aA (kH rfl rfl (by omega) (by omega)) ?_; refine aA (iH rfl Try.underlying5 Try.underlying3 (sN (by omega) (by omega)).1 (sN (by omega) (by omega)).2) ?_; refine aA (aK rfl rfl (by omega) (by omega)) ?_; refine wan (aH (aN (aE (cE (br1 ?_)))))
      exact ⟨_, nM hlt (by unfold oM; rw [if_neg (by omega), if_pos (by omega)]), tD (by omega), A, F, H, hR.ne⟩
     refine csr (aB (aA (eF rfl rfl) ?_)); refine aB (bC (t := 54) rfl (fun I => ?_) (fun I => ?_))
     ·refine aO (aB (aO (aA (eW rfl rfl) ?_))); refine bQ (wan (aW rfl (fun J => ?_) (fun J => ?_)))
      ·refine csr (aB ?_); refine aA (kH rfl rfl (by omega) (by omega)) ?_; refine aA (iH rfl Try.underlying5 Try.underlying3 (sN (by omega) (by omega)).1 (sN (by omega) (by omega)).2) ?_; refine aA (aK rfl rfl (by omega) (by omega)) ?_; refine wan (aH (aN (aE (cE (br1 ?_)))))
       exact ⟨_, nM hlt (by unfold oM; rw [if_neg (by omega), if_neg (by omega), if_pos (by omega)]), tD (by omega), A, F, H, hR.ne⟩
      refine aM (aP (aC (csr (cB (vs := [_]) cQ rfl (eB 83) rfl ?_ ?_))))
      ·intro pv wp hpp; obtain ⟨rfl, hpe⟩ := hpp
       exact And.intro rfl ⟨_, rfl, kG hlt (by unfold oM; rw [if_neg (by omega), if_neg (by omega), if_neg (by omega)]), rfl, (A).then hpe⟩
      intro _ _ hF; exact hF.elim
     refine aJ (aJ (bK (wan (cK rfl ?_)))); refine aM (aP (aC (csr (cB (vs := [_]) cQ rfl (eB 83) rfl ?_ ?_))))
     ·intro pv wp hpp; obtain ⟨rfl, hpe⟩ := hpp
      exact And.intro rfl ⟨_, rfl, kG hlt (by unfold oM; rw [if_neg (by omega), if_neg (by omega), if_neg (by omega)]), rfl, (A).then hpe⟩
     intro _ _ hF; exact hF.elim
    refine aJ (aJ (bK (wan (cK rfl ?_)))); refine csr (aB (aA (eF rfl rfl) ?_)); refine aB (bC (t := 54) rfl (fun I => ?_) (fun I => ?_))
    ·refine aO (aB (aO (aA (eW rfl rfl) ?_))); refine bQ (wan (aW rfl (fun J => ?_) (fun J => ?_)))
     ·refine csr (aB ?_); refine aA (kH rfl rfl (by omega) (by omega)) ?_; refine aA (iH rfl Try.underlying5 Try.underlying3 (sN (by omega) (by omega)).1 (sN (by omega) (by omega)).2) ?_; refine aA (aK rfl rfl (by omega) (by omega)) ?_; refine wan (aH (aN (aE (cE (br1 ?_)))))
      exact ⟨_, nM hlt (by unfold oM; rw [if_neg (by omega), if_neg (by omega), if_pos (by omega)]), tD (by omega), A, F, H, hR.ne⟩
     refine aM (aP (aC (csr (cB (vs := [_]) cQ rfl (eB 83) rfl ?_ ?_))))
     ·intro pv wp hpp; obtain ⟨rfl, hpe⟩ := hpp
      exact And.intro rfl ⟨_, rfl, kG hlt (by unfold oM; rw [if_neg (by omega), if_neg (by omega), if_neg (by omega)]), rfl, (A).then hpe⟩
     intro _ _ hF; exact hF.elim
    refine aJ (aJ (bK (wan (cK rfl ?_)))); refine aM (aP (aC (csr (cB (vs := [_]) cQ rfl (eB 83) rfl ?_ ?_))))
    ·intro pv wp hpp; obtain ⟨rfl, hpe⟩ := hpp
     exact And.intro rfl ⟨_, rfl, kG hlt (by unfold oM; rw [if_neg (by omega), if_neg (by omega), if_neg (by omega)]), rfl, (A).then hpe⟩
    intro _ _ hF; exact hF.elim
   refine aJ (aJ (bK (wan (cK rfl ?_)))); refine csr (aB (aA (eF rfl rfl) ?_)); refine aB (bC (t := 43) rfl (fun L => ?_) (fun L => ?_))
   ·refine aO (aB (aO (aA (eW rfl rfl) ?_))); refine bQ (wan (aW rfl (fun M => ?_) (fun M => ?_)))
    ·refine csr (aB ?_); refine aA (kH rfl rfl (by omega) (by omega)) ?_; refine aA (iH rfl Try.underlying5 Try.underlying3 (sN (by omega) (by omega)).1 (sN (by omega) (by omega)).2) ?_; refine aA (aK rfl rfl (by omega) (by omega)) ?_; refine wan (aH (aN (aE (cE (br1 ?_)))))
     exact ⟨_, nM hlt (by unfold oM; rw [if_neg (by omega), if_pos (by omega)]), tD (by omega), A, F, H, hR.ne⟩
    refine csr (aB (aA (eF rfl rfl) ?_)); refine aB (bC (t := 54) rfl (fun I => ?_) (fun I => ?_))
    ·refine aO (aB (aO (aA (eW rfl rfl) ?_))); refine bQ (wan (aW rfl (fun J => ?_) (fun J => ?_)))
     ·refine csr (aB ?_); refine aA (kH rfl rfl (by omega) (by omega)) ?_; refine aA (iH rfl Try.underlying5 Try.underlying3 (sN (by omega) (by omega)).1 (sN (by omega) (by omega)).2) ?_; refine aA (aK rfl rfl (by omega) (by omega)) ?_; refine wan (aH (aN (aE (cE (br1 ?_)))))
      exact ⟨_, nM hlt (by unfold oM; rw [if_neg (by omega), if_neg (by omega), if_pos (by omega)]), tD (by omega), A, F, H, hR.ne⟩
     refine aM (aP (aC (csr (cB (vs := [_]) cQ rfl (eB 83) rfl ?_ ?_))))
     ·intro pv wp hpp; obtain ⟨rfl, hpe⟩ := hpp
      exact And.intro rfl ⟨_, rfl, kG hlt (by unfold oM; rw [if_neg (by omega), if_neg (by omega), if_neg (by omega)]), rfl, (A).then hpe⟩
     intro _ _ hF; exact hF.elim
    refine aJ (aJ (bK (wan (cK rfl ?_)))); refine aM (aP (aC (csr (cB (vs := [_]) cQ rfl (eB 83) rfl ?_ ?_))))
    ·intro pv wp hpp; obtain ⟨rfl, hpe⟩ := hpp
     exact And.intro rfl ⟨_, rfl, kG hlt (by unfold oM; rw [if_neg (by omega), if_neg (by omega), if_neg (by omega)]), rfl, (A).then hpe⟩
    intro _ _ hF; exact hF.elim
   refine aJ (aJ (bK (wan (cK rfl ?_)))); refine csr (aB (aA (eF rfl rfl) ?_)); refine aB (bC (t := 54) rfl (fun I => ?_) (fun I => ?_))
   ·refine aO (aB (aO (aA (eW rfl rfl) ?_))); refine bQ (wan (aW rfl (fun J => ?_) (fun J => ?_)))
    ·refine csr (aB ?_); refine aA (kH rfl rfl (by omega) (by omega)) ?_; refine aA (iH rfl Try.underlying5 Try.underlying3 (sN (by omega) (by omega)).1 (sN (by omega) (by omega)).2) ?_; refine aA (aK rfl rfl (by omega) (by omega)) ?_; refine wan (aH (aN (aE (cE (br1 ?_)))))
     exact ⟨_, nM hlt (by unfold oM; rw [if_neg (by omega), if_neg (by omega), if_pos (by omega)]), tD (by omega), A, F, H, hR.ne⟩
    refine aM (aP (aC (csr (cB (vs := [_]) cQ rfl (eB 83) rfl ?_ ?_))))
    ·intro pv wp hpp; obtain ⟨rfl, hpe⟩ := hpp
     exact And.intro rfl ⟨_, rfl, kG hlt (by unfold oM; rw [if_neg (by omega), if_neg (by omega), if_neg (by omega)]), rfl, (A).then hpe⟩
    intro _ _ hF; exact hF.elim
   refine aJ (aJ (bK (wan (cK rfl ?_)))); refine aM (aP (aC (csr (cB (vs := [_]) cQ rfl (eB 83) rfl ?_ ?_))))
   ·intro pv wp hpp; obtain ⟨rfl, hpe⟩ := hpp
    exact And.intro rfl ⟨_, rfl, kG hlt (by unfold oM; rw [if_neg (by omega), if_neg (by omega), if_neg (by omega)]), rfl, (A).then hpe⟩
   intro _ _ hF; exact hF.elim
  refine aM (aC (csr (cB (vs := [_]) cQ rfl (eB 83) rfl ?_ ?_)))
  ·intro pv wp hpp; obtain ⟨rfl, hpe⟩ := hpp; exact And.intro rfl ⟨_, rfl, hexd_no (by omega), rfl, (V).then hpe⟩
  intro _ _ hF; exact hF.elim
theorem iR : dY Try.prog 26 := ⟨_, Try.func26, by kernel_rfl, by kernel_rfl⟩
theorem qC : dY Try.prog 77 := ⟨_, Try.func77, by kernel_rfl, by kernel_rfl⟩
def gT (st : PS) (j : Nat) : PS := { st with pos := j }
theorem xU (s : ByteArray) (i : Nat) : gA s i = .error 83 ∨ ∃ d, d < 16 ∧ i < s.size ∧ gA s i = .ok (d, i + 1) := by
  unfold gA
  by_cases h : i < s.size
  · rw [if_pos h]
    unfold oM
    split
    · rename_i d hd
      refine .inr ⟨d, ?_, h, rfl⟩
      split at hd
      · cases hd; omega
      · split at hd
        · cases hd; omega
        · split at hd
          · cases hd; omega
          · cases hd
    · exact .inl rfl
  · rw [if_neg h]; exact .inl rfl
theorem zQ {r : Int} (h0 : -2147483648 ≤ r) (h1 : r ≤ 2147483647) : IntKind.i32.min ≤ r ∧ r ≤ IntKind.i32.max := by
  constructor <;> simp [IntKind.min, IntKind.max, IntKind.signed, IntKind.bits] <;> omega
theorem TX {s : ByteArray} {n i : Nat} (hi : i ≤ s.size) (h : isB s i 125) : lY s (s.size + 1 - i) n i = .ok (n, i + 1) := by
  rw [show s.size + 1 - i = (s.size - i) + 1 by omega, lY, if_pos h]
theorem TW {s : ByteArray} {n i : Nat} (hi : i ≤ s.size) (h : ¬ isB s i 125) (he : gA s i = .error 83) : lY s (s.size + 1 - i) n i = .error 83 := by
  rw [show s.size + 1 - i = (s.size - i) + 1 by omega, lY, if_neg h, he]
theorem TY {s : ByteArray} {n i d : Nat} (hi : i ≤ s.size) (h : ¬ isB s i 125) (he : gA s i = .ok (d, i + 1)) (hb : 1114111 < n * 16 + d) : lY s (s.size + 1 - i) n i = .error 83 := by
  rw [show s.size + 1 - i = (s.size - i) + 1 by omega, lY, if_neg h, he]
  show (if 1114111 < n * 16 + d then _ else _) = _
  rw [if_pos hb]
theorem hexl_go {s : ByteArray} {n i d : Nat} (hi : i < s.size) (h : ¬ isB s i 125) (he : gA s i = .ok (d, i + 1)) (hb : ¬ 1114111 < n * 16 + d) : lY s (s.size + 1 - i) n i = lY s (s.size + 1 - (i + 1)) (n * 16 + d) (i + 1) := by
  rw [show s.size + 1 - i = (s.size + 1 - (i + 1)) + 1 by omega, lY, if_neg h, he]
  show (if 1114111 < n * 16 + d then _ else _) = _
  rw [if_neg hb]
theorem wL {s : ByteArray} {i d j : Nat} (h : gA s i = .ok (d, j)) : d < 16 := by
  rcases xU s i with e | ⟨d', h1, _, e⟩ <;> rw [e] at h <;> cases h
  exact h1
theorem hex_a {s : ByteArray} {i : Nat} (h : ¬ isB s i 123) (e : gA s i = .error 83) : pT s i = .error 83 := by unfold pT; rw [if_neg h, e]
theorem hex_b {s : ByteArray} {i d : Nat} (h : ¬ isB s i 123) (e : gA s i = .ok (d, i + 1)) (e2 : gA s (i + 1) = .error 83) : pT s i = .error 83 := by
  unfold pT; rw [if_neg h, e]; show (match gA s (i + 1) with | .error e => _ | .ok (b, k) => _) = _; rw [e2]
theorem hex_c {s : ByteArray} {i d f : Nat} (h : ¬ isB s i 123) (e : gA s i = .ok (d, i + 1)) (e2 : gA s (i + 1) = .ok (f, i + 1 + 1)) : pT s i = .ok (d * 16 + f, i + 1 + 1) := by
  unfold pT; rw [if_neg h, e]; show (match gA s (i + 1) with | .error e => _ | .ok (b, k) => _) = _; rw [e2]
theorem hex_d {s : ByteArray} {i : Nat} (h : isB s i 123) (e : gA s (i + 1) = .error 83) : pT s i = .error 83 := by unfold pT; rw [if_pos h, e]
theorem hex_e {s : ByteArray} {i d : Nat} (h : isB s i 123) (e : gA s (i + 1) = .ok (d, i + 1 + 1)) : pT s i = lY s (s.size + 1 - (i + 1 + 1)) d (i + 1 + 1) := by unfold pT; rw [if_pos h, e]
structure HxG where
  n : Nat
  p : Nat
structure HxI (w : World) (b : Nat) (s : ByteArray) (st : PS) (a : Option Addr) (c : Nat) (ob : Option Nat) (x : HxG) : Prop where
  hp : x.p ≤ s.size
  hn : x.n ≤ 1114111
  hr : RdAt w b s (gT st x.p) a c ob
  eq : pT s st.pos = lY s (s.size + 1 - x.p) x.n x.p
theorem MY {s : ByteArray} {i d j : Nat} (h : gA s i = .ok (d, j)) : i < s.size := by
  rcases xU s i with e | ⟨d', _, h1, e⟩ <;> rw [e] at h <;> cases h
  exact h1
theorem hex_ok {w : World} {b : Nat} {s : ByteArray} {st : PS} {a : Option Addr} {c : Nat} {ob : Option Nat} (hR : RdAt w b s st a c ob) (hs : s.size ≤ 1000000) :
    Calls Try.prog 70 #[.pointer (some ⟨b, 0, none⟩)] w (RetP (fun v w' => ∃ n j, pT s st.pos = .ok (n, j) ∧ v = .int .i32 (n : Nat) ∧ Evo [b] w w' ∧ RdAt w' b s (gT st j) a c ob) (fun v w' => pT s st.pos = .error 83 ∧ v = flt 83 ∧ Evo [b] w w')) := by
  have hap := hR.ap; refine bE (N := 33) Try.func70 rfl rfl rfl ?_; refine csr (wan (aI (csr (aB ?_)))); refine aL (vs := [_, _]) iR rfl (mQ hR hs 123 (by decide)) rfl ?_; rintro _ w1 ⟨rfl, a2, F⟩; have H := (Evo.refl [b] w).step a2 (fun y hy => .inl hy); refine aA (oO rfl) ?_; refine wnn (aW rfl (fun B => ?_) (fun B => ?_))
  ·rw [if_neg B] at F; refine csr (aB (cB (vs := [_]) qC rfl (oB F hs) rfl ?_ ?_))
   ·intro pv wp hpp; obtain ⟨hpe, rfl, hpw⟩ := hpp; exact And.intro rfl ⟨_, rfl, hex_a B hpe, rfl, (H).step hpw (fun y hy => .inl hy)⟩
   rintro _ w4 ⟨d1, hd1, rfl, a3, a4⟩; have L := H.step a3 (fun y hy => .inl hy); have hl1 := wL hd1; refine aB (cB (vs := [_]) qC rfl (oB a4 hs) rfl ?_ ?_)
   ·intro pv wp hpp; obtain ⟨hpe, rfl, hpw⟩ := hpp; exact And.intro rfl ⟨_, rfl, hex_b B hd1 hpe, rfl, (L).step hpw (fun y hy => .inl hy)⟩
   rintro _ w7 ⟨d2, hd2, rfl, a5, a6⟩; have hl2 := wL hd2; refine bX (wan (csr (aB ?_))); refine aA (fD rfl rfl (by omega) (by omega)) ?_; refine aB ?_; refine aA (aK rfl rfl (by omega) (by omega)) ?_; refine aA (iH rfl Try.underlying3 Try.underlying21 (zQ (by omega) (by omega)).1 (zQ (by omega) (by omega)).2) ?_; refine wan (aH (aE (cE (br1 ?_)))); exact ⟨_, _, hex_c B hd1 hd2, (by congr 1), (L.step a5 (fun y hy => .inl hy)), a6⟩
  have hb8 : isB s st.pos 123 := Classical.not_not.1 B; rw [if_pos hb8] at F; refine aM (aC (csr (aB (cB (vs := [_]) qC rfl (oB F hs) rfl ?_ ?_))))
  ·intro pv wp hpp; obtain ⟨hpe, rfl, hpw⟩ := hpp; exact And.intro rfl ⟨_, rfl, hex_d hb8 hpe, rfl, (H).step hpw (fun y hy => .inl hy)⟩
  rintro _ b4 ⟨d1, hd1, rfl, O, a7⟩; have hl1 := wL hd1; have hin := MY hd1; refine wan (aI (bJ ?_))
  refine dA (α := HxG) (⟨d1, st.pos + 1 + 1⟩) (fun x => [(5, .int .i64 (x.n : Nat))]) [(0, _), (2, _)] (fun x wr => Evo [b] w wr ∧ (HxI wr b s st a c ob x)) (fun x => s.size + 1 - x.p) ⟨rfl, trivial⟩ ⟨rfl, rfl, trivial⟩ ⟨(H.step O (fun y hy => .inl hy)), ⟨by show st.pos + 1 + 1 ≤ _; have : st.pos + 1 < s.size := hin; omega, by show d1 ≤ _; omega, a7, hex_e hb8 hd1⟩⟩ ?_
  rintro ⟨n, p⟩ wr13 ⟨U, ⟨hp9, a8, M, heq⟩⟩; show CW _ _ _ _ [(5, .int .i64 (n : Nat)), (0, _), (2, _)] _
  try dsimp only at hp9 a8 M heq
  refine aI (csr (aB ?_)); refine aL (vs := [_, _]) iR rfl (mQ M hs 125 (by decide)) rfl ?_; rintro _ b5 ⟨rfl, V, I⟩; have D := U.step V (fun y hy => .inl hy); refine aA (oO rfl) ?_; refine wnn (aW rfl (fun A => ?_) (fun A => ?_))
  ·rw [if_neg A] at I; refine aM (aC (bJ (csr (aB ?_)))); refine aA (fD rfl rfl (by omega) (by omega)) ?_; refine aB (cB (vs := [_]) qC rfl (oB I hs) rfl ?_ ?_)
   ·intro pv wp hpp; obtain ⟨hpe, rfl, hpw⟩ := hpp; exact And.intro rfl ⟨_, rfl, heq.trans (TW hp9 A hpe), rfl, (D).step hpw (fun y hy => .inl hy)⟩
   rintro _ b6 ⟨d2, hd2, rfl, a0, a9⟩; have J := D.step a0 (fun y hy => .inl hy); have hl2 := wL hd2; have hin2 : p < s.size := MY hd2; refine aA (aK rfl rfl (by omega) (by omega)) ?_; refine wan (csr (aB (aA (fE rfl rfl) ?_))); refine wnn (aW rfl (fun a1 => ?_) (fun a1 => ?_))
   ·refine aG (cB (vs := [_]) cQ rfl (eB 83) rfl ?_ ?_)
    ·intro pv wp hpp; obtain ⟨rfl, hpw⟩ := hpp; exact And.intro rfl ⟨_, rfl, heq.trans (TY hp9 A hd2 (by omega)), rfl, (J).then hpw⟩
    intro _ _ hF; exact hF.elim
   refine aM (aP (bA ?_)); refine ⟨⟨n * 16 + d2, p + 1⟩, ?_, ⟨rfl, trivial⟩, ⟨rfl, rfl, trivial⟩, J, ?_⟩
   · (try dsimp only); omega
   try dsimp only
   exact ⟨by show p + 1 ≤ _; omega, by show n * 16 + d2 ≤ _; omega, a9, heq.trans (hexl_go hin2 A hd2 (by omega))⟩
  have hb22 : isB s (gT st p).pos 125 := Classical.not_not.1 A; rw [if_pos hb22] at I; refine cN (bL (bL (cM (aC ?_)))); refine csr (aB ?_); refine aA (iH rfl Try.underlying3 Try.underlying21 (zQ (by omega) (by omega)).1 (zQ (by omega) (by omega)).2) ?_; refine wan (aH (cE (br1 ?_))); exact ⟨_, _, heq.trans (TX hp9 hb22), rfl, D, I⟩
end Go.Proofs.Ytidpigbinpaaeaa
namespace Go.Proofs.Ytidpigbinpaaeaa
open Go.RowKit Go.W
def FZ (g : Int × Int) : List Value := [.int .i32 g.1, .int .i32 g.2]
def cW (l : List (Int × Int)) : List Value := l.flatMap FZ
theorem vI (g : Int × Int) (l : List (Int × Int)) : cW (g :: l) = .int .i32 g.1 :: .int .i32 g.2 :: cW l := rfl
theorem jF (l m : List (Int × Int)) : cW (l ++ m) = cW l ++ cW m := List.flatMap_append
theorem iM : ∀ l : List (Int × Int), (cW l).length = l.length * 2
  | [] => rfl
  | g :: l => by rw [vI, List.length_cons, List.length_cons, iM l, List.length_cons]; omega
theorem sZ : ∀ {l : List (Int × Int)} {i : Nat} (h : i < l.length), (cW l)[i * 2]? = some (.int .i32 l[i].1) ∧ (cW l)[i * 2 + 1]? = some (.int .i32 l[i].2)
  | g :: l, 0, h => ⟨rfl, rfl⟩
  | g :: l, i + 1, h => by
    have := sZ (l := l) (i := i) (by simpa using h)
    rw [vI, show (i + 1) * 2 = i * 2 + 1 + 1 by omega]
    exact this
theorem pP : ∀ l : List (Int × Int), AllOne (cW l)
  | [] => trivial
  | g :: l => ⟨rfl, rfl, pP l⟩
section
variable {w : World} {e : TypeId} {a : Option Addr} {n c : Nat} {l : List (Int × Int)} {ob : Option Nat}
theorem pV (h : OwnS w e 2 a n c (cW l) ob) : n = l.length := by have := h.length; rw [iM] at this; omega
theorem oW (h : OwnS w e 2 a n c (cW l) ob) {i : Nat} (hi : i < l.length) : ∃ g, ob = some g ∧ a = some ⟨g, 0, none⟩ ∧ CellsAt w g (0 + i * 2) (FZ l[i]) := by
  have hn := pV h
  obtain ⟨g, hg, ha, hc⟩ := h.cells (by omega)
  refine ⟨g, hg, ha, fun j v hj => ?_⟩
  obtain ⟨h0, h1⟩ := sZ hi
  match j, hj with
  | 0, hj => cases hj; have := hc _ _ h0; simpa using this
  | 1, hj => cases hj; have := hc _ _ h1; simpa [Nat.add_assoc] using this
  | j + 2, hj => cases hj
theorem SL (h : OwnS w e 2 a n c (cW l) ob) : (a = none ∧ n = 0 ∧ l = [] ∧ ob = none) ∨ ∃ g, a = some ⟨g, 0, none⟩ ∧ ob = some g := by
  have hn := pV h
  rcases h.2 with ⟨h1, h2, h3⟩ | ⟨g, cap, cur, hg, hv, _⟩
  · cases h1; exact .inl ⟨rfl, rfl, List.length_eq_zero_iff.1 hn.symm, h3⟩
  · cases hv; exact .inr ⟨g, rfl, hg⟩
theorem own_rrg (h : OwnS w e 2 a n c (cW l) ob) {X : List Nat} (hx : ∀ g, ob = some g → g ∉ X) : RSl 2 RRg X w (.slice a l.length c) l := by
  have hn := pV h
  refine ⟨a, c, rfl, by rw [← hn]; exact h.le, fun k hk => ?_⟩
  obtain ⟨g, hg, ha, hc⟩ := oW h hk
  exact ⟨g, 0, _, ha, hx g hg, rfl, hc, rfl⟩
end
theorem rC (l : List (Int × Int)) : Sort.flatK FZ 2 l.toArray = (cW l).toArray := by
  apply Array.ext
  · simp [iM]
  · intro t h1 h2
    have h3 : t < l.length * 2 := by simpa [iM] using h2
    have h4 := Sort.get_flatK FZ 2 l.toArray t (by simpa using h3)
    rw [getElem!_pos _ t h1] at h4
    rw [h4]
    have h5 : t / 2 < l.length := by omega
    have h6 : (l.toArray)[t / 2]! = l[t / 2] := by simp [h5]
    rw [h6]
    obtain ⟨g0, g1⟩ := sZ h5
    rcases Nat.mod_two_eq_zero_or_one t with hm | hm <;> rw [hm]
    · rw [show t / 2 * 2 = t by omega] at g0
      show (Value.int .i32 l[t / 2].1) = _
      simp only [List.getElem_toArray]
      exact (Option.some.inj ((List.getElem?_eq_getElem (by rw [iM]; exact h3)).symm.trans g0)).symm
    · rw [show t / 2 * 2 + 1 = t by omega] at g1
      show (Value.int .i32 l[t / 2].2) = _
      simp only [List.getElem_toArray]
      exact (Option.some.inj ((List.getElem?_eq_getElem (by rw [iM]; exact h3)).symm.trans g1)).symm
theorem UP (w : World) (g n : Nat) (d : Array Value) (os : Array Obj) : Evo [g] w (Sort.grow (Sort.putRow id (Sort.ahead w n) g 0 d) os) := by
  refine ⟨rfl, rfl, rfl, ?_, fun b hb hx => ?_⟩
  · simp [Sort.grow, Sort.putRow, Sort.mapBlock, Sort.ahead]
  · have hne : g ≠ b := fun e => hx (by simp [e])
    simp only [Sort.grow, Sort.putRow, Sort.mapBlock, Sort.ahead]
    rw [Array.getElem?_append_left (by simpa using hb), Array.getElem?_modify, if_neg hne]
theorem RB {w : World} {g : Nat} {cur : Array Value} {e : TypeId} (hb : w.heap[g]? = some (.cells cur e (0, 0))) (n : Nat) (d : Array Value) (os : Array Obj) :
    (Sort.grow (Sort.putRow id (Sort.ahead w n) g 0 d) os).heap[g]? = some (.cells (Sort.putCells id 0 d cur) e (0, 0)) := by
  have hlt := eM hb
  simp only [Sort.grow, Sort.putRow, Sort.mapBlock, Sort.ahead]
  rw [Array.getElem?_append_left (by simpa using hlt), Array.getElem?_modify, if_pos rfl, hb]
  rfl
theorem xB (cur : Array Value) (ds : List Value) (hc : ds.length ≤ cur.size) : (Sort.putCells id 0 ds.toArray cur).toList.take ds.length = ds := by
  apply List.ext_getElem?
  intro k
  by_cases hk : k < ds.length
  · rw [List.getElem?_take, if_pos hk]
    simp only [Sort.putCells, Array.getElem?_toList, Array.getElem?_mapIdx, List.getElem?_map]
    have h1 : k < cur.size := by omega
    simp [h1, hk]
  · rw [List.getElem?_eq_none (by simp; omega), List.getElem?_eq_none (by omega)]
theorem OI {w : World} {e : TypeId} {g n c sz : Nat} {xs ds : List Value} (h : OwnS w e sz (some ⟨g, 0, none⟩) n c xs (some g)) (hd : ds.length = n * sz) (q : Nat) (os : Array Obj) :
    OwnS (Sort.grow (Sort.putRow id (Sort.ahead w q) g 0 ds.toArray) os) e sz (some ⟨g, 0, none⟩) n c ds (some g) := by
  refine ⟨hd, ?_⟩
  rcases h.2 with ⟨h1, _⟩ | ⟨g', cap, cur, hg, hv, hb, hn, hc, hs, ht⟩
  · cases h1
  · cases hg; cases hv
    have hle : n * sz ≤ c * sz := Nat.mul_le_mul_right sz hn
    refine .inr ⟨g, c, _, rfl, rfl, RB hb q ds.toArray os, hn, hc, by simpa [Sort.putCells] using hs, ?_⟩
    rw [← hd]
    exact xB cur ds (by omega)
theorem IF {w : World} {e : TypeId} {g n c : Nat} {l : List (Int × Int)} (h : OwnS w e 2 (some ⟨g, 0, none⟩) n c (cW l) (some g)) : Sort.HoldsK FZ 2 w g 0 l.toArray := fun j hj => by
  rw [rC] at hj ⊢
  have hj' : j < (cW l).length := by simpa using hj
  have hl := h.length
  rcases h.2 with ⟨h1, _⟩ | ⟨g', cap, cur, hg, hv, hb, hn, hc, hs, ht⟩
  · cases h1
  · cases hg; cases hv
    constructor
    · refine eS hb ?_
      have h1 : (cur.toList.take (n * 2))[j]? = some (cW l)[j] := by rw [ht]; exact List.getElem?_eq_getElem hj'
      rw [List.getElem?_take, if_pos (by omega)] at h1
      rw [Nat.zero_add]
      simpa [hj'] using h1
    · simp [World.frozen?, hb]
end Go.Proofs.Ytidpigbinpaaeaa
namespace Go.Proofs.Ytidpigbinpaaeaa
open Go.RowKit Go.W
attribute [local irreducible] Decidable.decide
theorem vV : pG Try.prog 114 = some 1 := by kernel_rfl
def Vr (l : List (Int × Int)) : Prop := ∀ g, g ∈ l → 0 ≤ g.1 ∧ g.1 ≤ g.2 ∧ g.2 ≤ 1114111
def lE : List Int → List (Int × Int)
  | a :: b :: r => (a, b) :: lE r
  | _ => []
theorem AJ : ∀ (l : List Int), (lE l).length = l.length / 2
  | [] => rfl
  | [a] => by rw [show lE [a] = [] from rfl]; simp
  | a :: b :: r => by rw [lE, List.length_cons, AJ r]; simp only [List.length_cons]; omega
theorem AK : ∀ {l : List Int} {k : Nat} (h : k < (lE l).length) (h0 : 2 * k < l.length) (h1 : 2 * k + 1 < l.length), (lE l)[k] = (l[2 * k], l[2 * k + 1])
  | [], k, h, _, _ => by cases h
  | [a], k, h, _, _ => by cases h
  | a :: b :: r, 0, h, _, _ => rfl
  | a :: b :: r, k + 1, h, h0, h1 => by
    have := AK (l := r) (k := k) (by rw [lE] at h; simpa using h) (by simp only [List.length_cons] at h0; omega) (by simp only [List.length_cons] at h1; omega)
    have h2 : (lE (a :: b :: r))[k + 1] = (lE r)[k]'(by rw [lE] at h; simpa using h) := rfl
    rw [h2, this]
    simp only [show 2 * (k + 1) = 2 * k + 1 + 1 by omega, List.getElem_cons_succ]
theorem nX (l : List (Int × Int)) (a b : Int) : cW (l ++ [(a, b)]) = cW l ++ [.int .i32 a, .int .i32 b] := by rw [jF]; rfl
abbrev i32v (l : List Int) : List Value := l.map fun c => Value.int .i32 c
theorem EL {w : World} {e : TypeId} {a : Option Addr} {n c : Nat} {ys : List Int} {ob : Option Nat} (h : OwnS w e 1 a n c (i32v ys) ob) {k : Nat} (hk : k < ys.length) : ∃ g, ob = some g ∧ a = some ⟨g, 0, none⟩ ∧ w.cell? ⟨g, 0 + k * 1, none⟩ = some (.int .i32 ys[k]) := by
  have hl : ys.length = n * 1 := by have := h.length; simpa using this
  obtain ⟨g, hg, ha, hc⟩ := h.cells (by omega)
  refine ⟨g, hg, ha, ?_⟩
  rw [Nat.mul_one]
  exact hc k _ (by simp [hk])
structure SpG where
  k : Nat
  sa : Option Addr
  sc : Nat
  so : Option Nat
structure SpI (w wr : World) (n : Nat) (l : List (Int × Int)) (a : Option Addr) (c : Nat) (ob : Option Nat) : Prop where
  hk : n = l.length
  own : OwnS wr 78 2 a n c (cW l) ob
  ge : Ge w ob
theorem BI {w : World} {a : Option Addr} {c : Nat} {l : List (Int × Int)} {ob : Option Nat} (hO : OwnS w 78 2 a l.length c (cW l) ob) (hl : l.length ≤ 1000000) :
    Calls Try.prog 31 #[.slice a l.length c] w (Ret fun v w' => ∃ a' c' ob', v = .slice a' l.length c' ∧ OwnS w' 78 2 a' l.length c' (cW l) ob' ∧ Ge w ob' ∧ Evo [] w w') := by
  refine bE (N := 8) Try.func31 rfl rfl rfl ?_; refine csr (wan (aI (csr (aB (aA (ND rfl rfl Try.underlying34) ?_))))); refine wnn (fG rfl (fun B => ?_) (fun B => ?_))
  ·refine csr (wan (aH (aE (br1 ?_))))
   obtain ⟨rfl, h1, rfl, rfl⟩ := (SL hO).resolve_right (fun ⟨g, h, _⟩ => by rw [h] at B; cases B)
   exact ⟨none, 0, none, rfl, OwnS.nil _ _ _, Ge.nil _, (Evo.refl [] w)⟩
  refine aM (aC (csr (bM (vs := []) rfl gG rfl rfl rfl rfl fun b1 w2 A I J => ?_))); have F := Ge.new (Evo.refl [] w) I; have D := (Evo.refl [] w).then J; refine aB ?_; refine cZ rfl rfl rfl rfl fJ A (Src.ofOwn (hO.evo0 D) (pP l)) (by omega) fun a2 c2 M ob2 L H hob16 => ?_; refine wan (aH (br1 ?_)); have A := L; rw [Nat.zero_add] at A; exact ⟨a2, c2, ob2, by rw [Nat.zero_add], by simpa using A, (F.app D hob16), (D.step H F.mem)⟩
theorem fM {w : World} {a : Option Addr} {n c : Nat} {es : List Int} {ob : Option Nat} (hO : OwnS w 21 1 a n c (i32v es) ob) (hl : es.length ≤ 1000) :
    Calls Try.prog 48 #[.slice a n c] w (Ret fun v w' => ∃ a' c' ob', v = .slice a' (lE es).length c' ∧ OwnS w' 78 2 a' (lE es).length c' (cW (lE es)) ob' ∧ Ge w ob' ∧ Evo [] w w') := by
  have hn : n = es.length := by have := hO.length; simp at this; omega
  subst hn; have hpl := AJ es; refine bE (N := 26) Try.func48 rfl rfl rfl ?_; refine csr (wan (csr (wan (aI (csr (wan (bJ ?_))))))); refine dA (α := SpG) (⟨0, none, 0, none⟩) (fun x => [(3, .slice x.sa x.k x.sc), (4, .int .i64 ((2 * x.k : Nat) : Int))]) [(0, _), (2, _)] (fun x wr => Evo [] w wr ∧ (x.k ≤ (lE es).length ∧ SpI w wr x.k ((lE es).take x.k) x.sa x.sc x.so)) (fun x => (lE es).length - x.k) ⟨rfl, rfl, trivial⟩ ⟨rfl, rfl, trivial⟩ ⟨(Evo.refl [] w), ⟨Nat.zero_le _, by simp, OwnS.nil _ _ _, Ge.nil _⟩⟩ ?_; rintro ⟨k, sa, sc, so⟩ wr1 ⟨I, ⟨hk, hkl, hown, hge⟩⟩; show CW _ _ _ _ [(3, .slice sa k sc), (4, .int .i64 ((2 * k : Nat) : Int)), (0, _), (2, _)] _
  try dsimp only at hk hkl hown hge
  refine aI (csr (aB ?_)); refine aA (aK rfl rfl (by omega) (by omega)) ?_; refine aB (aA (aZ rfl Try.underlying114 rfl) ?_); refine aA (cU rfl rfl) ?_; refine wnn (aW rfl (fun L => ?_) (fun L => ?_))
  ·have h0 : 2 * k < es.length := by omega
   have h1 : 2 * k + 1 < es.length := by omega
   have hk' : k < (lE es).length := by omega
   obtain ⟨g0, hg0, ha0, M⟩ := EL hO h0; obtain ⟨g1, hg1, ha1, O⟩ := EL hO h1; refine aM (aC (aI (bJ ?_))); refine fT (fun w0 w' => Evo so.toList w0 w') (by kernel_rfl) (fun w3 J => ?_); have B := I.then J; refine aet 0 rfl (fun _ hS => aX rfl) (Evo.refl so.toList w3) ?_; refine aet 1 rfl (fun _ hS => aX rfl) (Evo.refl so.toList w3) ?_; refine aet 2 rfl (fun _ hS => aX rfl) (Evo.refl so.toList w3) ?_; refine aet 3 rfl (fun _ hS => cP (n := 2 * k) rfl (by rfl) ha0 vV h0) (Evo.refl so.toList w3) ?_; refine aet 4 rfl (fun _ hS => aS rfl cO (((B.step hS (hge.mem))).cell M (by simp))) (Evo.refl so.toList w3) ?_; refine aet 5 rfl (fun _ hS => aX rfl) (Evo.refl so.toList w3) ?_; refine aet 6 rfl (fun _ hS => aX rfl) (Evo.refl so.toList w3) ?_; refine aet 7 rfl (fun _ hS => aK rfl rfl (by omega) (by omega)) (Evo.refl so.toList w3) ?_; refine aet 8 rfl (fun _ hS => cP (n := 2 * k + 1) rfl (by rfl) ha1 vV h1) (Evo.refl so.toList w3) ?_; refine aet 9 rfl (fun _ hS => aS rfl cO (((B.step hS (hge.mem))).cell O (by simp))) (Evo.refl so.toList w3) ?_
   refine aet 10 rfl (fun _ hS => cC (vs := [(0, _), (1, _)]) kN rfl (cells := [_, _]) rfl) (Evo.refl so.toList w3) ?_; refine bV [11] (by kernel_rfl) rfl ⟨?_, trivial⟩; refine cA rfl ?_; refine bM (vs := [_]) rfl gG rfl rfl rfl rfl fun b7 w8 U a0 A => ?_; have D := (Evo.refl so.toList w3).then A; refine aQ (bO (.inl D) ?_); refine bV [12] (by kernel_rfl) rfl ⟨?_, trivial⟩; refine cA rfl ?_; refine cZ rfl rfl rfl rfl fJ ((hown.evo0 J).evo0 A) (Src.ofOwn U ⟨by first | rfl | assumption, by first | rfl | assumption, trivial⟩) (by omega) fun a2 c2 a1 ob2 V F hob24 => ?_; have H := D.step F (fun y hy => .inl hy); refine aQ (bO (.inl H) ?_); refine aet 13 rfl (fun _ hS => eG rfl) H ?_; refine dH (by kernel_rfl) (aP (aC ?_)); refine aG (aB ?_); refine aA (aK rfl rfl (by omega) (by omega)) ?_; refine bX (aQ (bA ?_)); refine ⟨⟨k + 1, a2, c2, ob2⟩, ?_, ⟨rfl, rfl, trivial⟩, ⟨rfl, rfl, trivial⟩, ((B.then A).step F hge.mem), ?_⟩
   · (try dsimp only); omega
   try dsimp only
   refine ⟨hk', ⟨by rw [List.length_take]; omega, ?_, (hge.app (B.then A) hob24)⟩⟩
   rw [List.take_add_one, List.getElem?_eq_getElem hk', AK hk' h0 h1, Option.toList_some, nX]; exact V
  refine cN (bL (bL (cM (aC ?_)))); refine csr (aB (wan (aH (br1 ?_))))
  obtain rfl : k = (lE es).length := by omega
  rw [List.take_length] at hown; exact ⟨sa, sc, so, rfl, hown, hge, I⟩
open Go.Shelf Go.Lib Go.Sort in
section
def cl (z : Int) : Int := max 0 (min z 1114111)
def DC (g : Int × Int) : List Value := FZ (cl g.1, cl g.2)
def cmC (x y : Int × Int) : Int := cl x.1 - cl y.1
theorem NL {z : Int} (h0 : 0 ≤ z) (h1 : z ≤ 1114111) : cl z = z := by unfold cl; omega
theorem cl_b (z : Int) : 0 ≤ cl z ∧ cl z ≤ 1114111 := by unfold cl; omega
set_option maxHeartbeats 1000000 in
theorem clos_ok (x y : Int × Int) (W : World) : Calls Try.prog 72 #[.agg (DC x).toArray, .agg (DC y).toArray] W fun e w' => e = .returned (.int .i64 (cmC x y)) ∧ ∃ q os', w' = Sort.grow (W.drewN q) os' := by
  have hx := cl_b x.1
  have hy := cl_b y.1
  unfold DC FZ cmC
  generalize cl x.1 = p at *
  generalize cl y.1 = q at *
  generalize cl x.2 = p' at *
  generalize cl y.2 = q' at *
  show Calls Try.prog 72 #[.agg #[.int .i32 p, .int .i32 p'], .agg #[.int .i32 q, .int .i32 q']] W _
  go_enter Try.func72, Try.ntmps72
  go_wp2
  go_ret
  refine ⟨?_, 0, _, by rw [Sort.alloc_eq_grow, Sort.alloc_eq_grow, Sort.grow_grow]; rfl⟩
  rfl
end
theorem VD {l : List (Int × Int)} (h : Vr l) : l.map (fun g => (cl g.1, cl g.2)) = l := by
  conv => rhs; rw [← List.map_id l]
  refine List.map_congr_left fun g hg => ?_
  have := h g hg
  rw [NL (by omega) (by omega), NL (by omega) (by omega)]; rfl
theorem yE (l : List (Int × Int)) : Sort.flatK DC 2 l.toArray = (cW (l.map fun g => (cl g.1, cl g.2))).toArray := by
  rw [← rC]
  unfold Sort.flatK
  apply Array.ext
  · simp
  · intro t h1 h2
    have h3 : t < l.length * 2 := by simpa using h1
    have h5 : t / 2 < l.length := by omega
    simp [h5]
    rfl
theorem LF {l m : List (Int × Int)} (h : m.Perm l) (hv : Vr l) : Vr m := fun g hg => hv g (h.mem_iff.1 hg)
theorem MN (x y : Int × Int) : Go.Proofs.ltOf cmC x y = decide (cl x.1 < cl y.1) := by unfold Go.Proofs.ltOf cmC; exact decide_eq_decide.2 (by omega)
theorem swo_cm : Sort.SWO (Go.Proofs.ltOf cmC) where
  irrefl x := by rw [MN]; simp
  trans x y z h1 h2 := by rw [MN] at *; simp at *; omega
  ntrans x y z h1 h2 := by rw [MN] at *; simp at *; omega
theorem QS {w : World} {a : Option Addr} {c : Nat} {l : List (Int × Int)} {ob : Option Nat} (hO : OwnS w 78 2 a l.length c (cW l) ob) (hv : Vr l) (hl : l.length ≤ 1000000) :
    Calls Try.prog 71 #[.slice a l.length c, .func (.func 72) #[] #[]] w (Ret fun v w' => v = .tuple #[] ∧ ∃ m, m.Perm l ∧ (∀ i j (hij : i < j) (hj : j < m.length), m[i].1 ≤ m[j].1) ∧ OwnS w' 78 2 a l.length c (cW m) ob ∧ Evo ob.toList w w') := by
  rcases SL hO with ⟨rfl, hn, rfl, rfl⟩ | ⟨g, rfl, rfl⟩
  · refine (Go.Proofs.AnyF.slices_SortFunc_none { BN with } none c (.func (.func 72) #[] #[]) w).mono ?_
    rintro e w' ⟨rfl, rfl⟩
    exact ⟨_, rfl, rfl, [], .refl _, (fun i j hij hj => by cases hj), hO, Evo.refl _ _⟩
  · have eg : ∀ args w, (callFunc 72 args).run Try.prog w = .ok (.enter 72 args) w := enters_of Try.func72 (by kernel_rfl) rfl
    have hH : Sort.HoldsK DC 2 w g 0 l.toArray := by
      have := IF hO
      unfold Sort.HoldsK at *
      rw [yE, VD hv]; rw [rC] at this; exact this
    have hcon := Go.Proofs.AnyQ.slices_SortFunc BN 2 Try.isAgg78 Try.sizeOf78 DC (fun _ => rfl) (fun x v hv => by simp [DC, FZ] at hv; rcases hv with rfl | rfl <;> rfl) cmC swo_cm 72 #[] g 0 c l.toArray w eg (fun _ _ _ _ x y => clos_ok x y _) hH hO.lt (by simp; omega)
    refine Calls.mono hcon ?_
    rintro e w' ⟨rfl, d', q, os, hp, hs, rfl⟩
    obtain ⟨h1, h2, h3⟩ := hp
    have hperm : d'.toList.Perm l := by
      have e1 : d'.extract 0 l.toArray.size = d' := by rw [← h1, Array.extract_size]
      have e2 : l.toArray.extract 0 l.toArray.size = l.toArray := Array.extract_size
      rw [e1, e2] at h3
      exact h3
    have hvm := LF hperm hv
    have hlen : d'.toList.length = l.length := by simpa using h1
    refine ⟨_, rfl, rfl, d'.toList, hperm, fun i j hij hj => ?_, ?_, ?_⟩
    · have hjs : j < d'.size := by simpa using hj
      have h5 := hs i j (Nat.zero_le _) hij (by rw [← h1]; exact hjs)
      rw [MN, decide_eq_false_iff_not] at h5
      have h6 := hvm _ (List.getElem_mem hj)
      have h7 := hvm _ (List.getElem_mem (show i < d'.toList.length by omega))
      have e1 : d'[j]! = d'.toList[j] := by rw [getElem!_pos d' j hjs]; simp
      have e2 : d'[i]! = d'.toList[i] := by rw [getElem!_pos d' i (by omega)]; simp
      rw [e1, e2, NL (by omega) (by omega), NL (by omega) (by omega)] at h5
      omega
    · have h8 := OI hO (ds := cW d'.toList) (by rw [iM, hlen]) q os
      have e3 : Sort.flatK DC 2 d' = (cW d'.toList).toArray := by
        have := yE d'.toList
        rw [VD hvm] at this
        simpa using this
      show OwnS (Sort.grow (Sort.putRow id (Sort.ahead w q) g 0 (Sort.flatK DC 2 d')) os) _ _ _ _ _ _ _
      rw [e3]
      exact h8
    · exact UP w g q _ os
theorem JV : dY Try.prog 71 := ⟨_, Try.func71, by kernel_rfl, by kernel_rfl⟩
structure MgP (m : List (Int × Int)) (k : Nat) (o : List (Int × Int)) : Prop where
  hk : k ≤ m.length
  can : sO o
  eq : ∀ c, InR c o ↔ InR c (m.take k)
  le : ∀ g, g ∈ o → ∀ i (h : i < m.length), k ≤ i → g.1 ≤ m[i].1
  len : o.length ≤ k
theorem TN (m : List (Int × Int)) : MgP m 0 [] := ⟨Nat.zero_le _, trivial, fun c => by simp, (fun g h => by cases h), Nat.le_refl _⟩
theorem EX {m : List (Int × Int)} {k : Nat} (h : k < m.length) (c : Int) : InR c (m.take (k + 1)) ↔ InR c (m.take k) ∨ (m[k].1 ≤ c ∧ c ≤ m[k].2) := by
  rw [List.take_add_one, List.getElem?_eq_getElem h, Option.toList_some, mS, jB]
section
variable {m : List (Int × Int)} {k : Nat} {o : List (Int × Int)}
theorem TO (h : MgP m k o) (hk : k < m.length) (hv : Vr m) (hs : ∀ i j (hij : i < j) (hj : j < m.length), m[i].1 ≤ m[j].1) (ho : o = [] ∨ ∃ o' g, o = o' ++ [g] ∧ ¬ m[k].1 ≤ g.2 + 1) : MgP m (k + 1) (o ++ [m[k]]) := by
  have hx := hv _ (List.getElem_mem hk)
  refine ⟨hk, ?_, fun c => ?_, fun g hg i hi hki => ?_, by rw [List.length_append]; have := h.len; simp; omega⟩
  · rcases ho with rfl | ⟨o', g, rfl, hn⟩
    · exact yG hx.1 hx.2.1 hx.2.2
    · exact ((GJ h.can (h.le g (by simp) k hk (Nat.le_refl _)) hx.2.1 hx.2.2).2 hn).1
  · rw [mS, jB, EX hk, h.eq]
  · rcases List.mem_append.1 hg with hg | hg
    · exact h.le g hg i hi (by omega)
    · rw [List.mem_singleton.1 hg]; exact hs k i (by omega) hi
theorem mg_ext {o' : List (Int × Int)} {g : Int × Int} (h : MgP m k (o' ++ [g])) (hk : k < m.length) (hv : Vr m) (hn : m[k].1 ≤ g.2 + 1) : MgP m (k + 1) (o' ++ [(g.1, max g.2 m[k].2)]) := by
  have hx := hv _ (List.getElem_mem hk)
  have h1 := (GJ h.can (h.le g (by simp) k hk (Nat.le_refl _)) hx.2.1 hx.2.2).1 hn
  refine ⟨hk, h1.1, fun c => by rw [h1.2, EX hk, h.eq], fun g' hg i hi hki => ?_, by have := h.len; simp at this ⊢; omega⟩
  rcases List.mem_append.1 hg with hg | hg
  · exact h.le g' (by simp [hg]) i hi (by omega)
  · rw [List.mem_singleton.1 hg]; exact h.le g (by simp) i hi (by omega)
theorem mg_end (h : MgP m k o) (hk : m.length ≤ k) {l : List (Int × Int)} (hp : m.Perm l) {S : Int → Prop} (hS : ∀ c, InR c l ↔ S c) : o = jC S := by
  refine (pH h.can fun c => ?_).symm
  rw [h.eq, List.take_of_length_le hk, EY hp, hS]
end
theorem HW (o : List (Int × Int)) (g : Int × Int) (z : Int) (j : Nat) (hj : j = 0 + o.length * 2 + 1) : (cW (o ++ [g])).set j (.int .i32 z) = cW (o ++ [(g.1, z)]) := by
  subst hj
  obtain ⟨a, b⟩ := g
  rw [nX, nX, List.set_append_right _ _ (by rw [iM]; omega), iM, show 0 + o.length * 2 + 1 - o.length * 2 = 1 by omega]
  rfl
theorem snoc_of {l : List (Int × Int)} (h : 0 < l.length) : ∃ o g, l = o ++ [g] ∧ o.length = l.length - 1 := by
  rcases List.eq_nil_or_concat l with rfl | ⟨o, g, rfl⟩
  · cases h
  · exact ⟨o, g, by simp, by simp⟩
structure MgG where
  k : Nat
  n : Nat
  o : List (Int × Int)
  sa : Option Addr
  sc : Nat
  so : Option Nat
structure MgI (w wr : World) (m : List (Int × Int)) (a1 : Option Addr) (c1 : Nat) (ob1 : Option Nat) (x : MgG) : Prop where
  p : MgP m x.k x.o
  cl : OwnS wr 78 2 a1 m.length c1 (cW m) ob1
  own : OwnS wr 78 2 x.sa x.n x.sc (cW x.o) x.so
  ge : Ge w x.so
  gc : Ge w ob1
  ap : Apart ob1 x.so
theorem xR {a b : Int} : (if a < b then b else a) = max a b := by omega
def RsOut (w w' : World) (v : Value) (S : Int → Prop) (n : Nat) : Prop := ∃ a c ob, v = .slice a (jC S).length c ∧ OwnS w' 78 2 a (jC S).length c (cW (jC S)) ob ∧ Ge w ob ∧ (jC S).length ≤ n ∧ sO (jC S) ∧ (∀ c, InR c (jC S) ↔ S c) ∧ Evo [] w w'
theorem uU {w : World} {a : Option Addr} {c : Nat} {l : List (Int × Int)} {ob : Option Nat} (hO : OwnS w 78 2 a l.length c (cW l) ob) (hv : Vr l) (hl : l.length ≤ 1000000) {S : Int → Prop} (hS : ∀ c, InR c l ↔ S c) :
    Calls Try.prog 61 #[.slice a l.length c] w (Ret fun v w' => RsOut w w' v S l.length) := by
  refine bE (N := 53) Try.func61 rfl rfl rfl ?_; refine csr (wan (csr (aB (aL (vs := [_]) tM rfl (BI hO hl) rfl ?_)))); rintro _ w1 ⟨a1, c1, ob1, rfl, d1, hg1, d2⟩; refine wan (csr (aB (aL (vs := [_, _]) JV rfl (QS d1 hv hl) rfl ?_))); rintro _ w5 ⟨rfl, m, hpm, hsm, c0, d3⟩; have hml := hpm.length_eq; have hvm := LF hpm hv; rw [← hml] at c0; refine wnn (csr (wan (aI (csr (aB (aA (aZ rfl Try.underlying34 rfl) ?_)))))); refine aB (wnn (bJ (dA (α := MgG) (⟨0, 0, [], none, 0, none⟩) (fun x => [(3, .slice x.sa x.n x.sc), (13, .int .i64 (x.k : Nat))]) [(2, _), (11, _), (12, _)] (fun x wr => Evo [] w wr ∧ (MgI w wr m a1 c1 ob1 x)) (fun x => m.length - x.k) ⟨rfl, rfl, trivial⟩ ⟨rfl, rfl, rfl, trivial⟩ ⟨(((Evo.refl [] w).then d2).step d3 (Ge.fresh (Evo.refl [] w) hg1).mem), ⟨TN m, c0, OwnS.nil _ _ _, Ge.nil _, hg1, Apart.nil _⟩⟩ ?_))); rintro ⟨k, n, o, sa, sc, so⟩ wr8 ⟨a9, ⟨hp, hcl, hown, hge, hgc, hap⟩⟩; show CW _ _ _ _ [(3, .slice sa n sc), (13, .int .i64 (k : Nat)), (2, _), (11, _), (12, _)] _
  try dsimp only at hp hcl hown hge hgc hap
  have O := Evo.refl ([]) wr8; have hon := pV hown; have hpl := hp.len; have hpk := hp.hk
  try dsimp only at hpl hpk
  refine csr (aA (cU rfl rfl) ?_); refine wnn (aI (aW rfl (fun c4 => ?_) (fun c4 => ?_)))
  ·have hk' : k < m.length := by omega
   have hvk := hvm _ (List.getElem_mem hk'); obtain ⟨g1, hg1', ha1, d4⟩ := oW hcl hk'; refine aM (aC (aI (bJ (csr ?_)))); refine aA (cP (n := k) rfl rfl ha1 fI (by omega)) ?_; refine aA (cY rfl lS fY (vs := [_, _]) rfl (d4.evo O (by simp))) ?_; refine cL rfl nQ fun d8 d9 c5 I J => ?_; have b4 := Apart.new (Lt.own hown) I; refine aV rfl rfl fY c5 rfl rfl ⟨by first | rfl | assumption, by first | rfl | assumption, trivial⟩ fun e0 D L => ?_; have U := (a9.then J).step L (Ge.new a9 I).mem1; have b5 := (O.then J).step L (Ge.new O I).mem1; have V := (hown.evo0 J).evo L b4.own1; have a0 := (hcl.evo0 J).evo L (Apart.new (Lt.own hcl) I).own1
   try simp only [cH, Nat.reduceAdd] at D
   refine wnn (aI (csr (aB (aA (aZ rfl Try.underlying34 rfl) ?_)))); refine wan (aI ?_); refine eH (by kernel_rfl) (by kernel_rfl) ?_; refine bD (fun _ A => aX rfl) ?_; refine bD (fun _ A => fE rfl rfl) ?_; refine bD (fun _ A => aX rfl) ?_; refine jT (t := 21) rfl (fun c6 => ?_) (fun c6 => ?_)
   ·have h0 : 0 < o.length := by omega
    obtain ⟨o', q, hoq, hol⟩ := snoc_of h0; subst hoq
    have hol2 : (o' ++ [q]).length = o'.length + 1 := by simp
    have hqb := vC (x := q) hp.can; obtain ⟨gq, hgq, haq, hcq⟩ := oW hown (i := o'.length) (by omega); rw [List.getElem_concat_length (h := rfl)] at hcq; refine qlg ?_; refine bD (fun _ A => aD rfl fU) ?_; refine qlg ?_; refine bD (fun _ A => aS rfl cO (aY (A.blk0 D) rfl)) ?_; refine qlg ?_; refine bD (fun _ A => aX rfl) ?_; refine qlg ?_; refine bD (fun _ A => aX rfl) ?_; refine qlg ?_; refine bD (fun _ A => dJ rfl rfl (by omega) (by omega)) ?_; refine qlg ?_; refine bD (fun _ A => eD (n := o'.length) rfl rfl haq (by omega) fI (by omega)) ?_; refine qlg ?_; refine bD (fun _ A => aD rfl eT) ?_; refine qlg ?_; refine bD (fun _ A => aS rfl cO (((b5.then A)).cell (hcq 1 _ rfl) (by simp))) ?_; refine qlg ?_; refine bD (fun _ A => iN rfl rfl (by omega) (by omega)) ?_; refine qlg ?_; refine bD (fun _ A => eW rfl rfl) ?_; refine bD (fun _ A => fV rfl rfl) ?_; refine eL (fun c7 A => aC ?_); refine aW rfl (fun a3 => ?_) (fun a3 => ?_)
    ·refine aI ?_; refine fT (fun w0 w' => Evo so.toList w0 w') (by kernel_rfl) (fun B F => ?_); have a4 := (V.evo0 A).evo0 F; refine aet 0 rfl (fun _ hS => aX rfl) (Evo.refl so.toList B) ?_; refine aet 1 rfl (fun _ hS => aX rfl) (Evo.refl so.toList B) ?_; refine aet 2 rfl (fun _ hS => dJ rfl rfl (by omega) (by omega)) (Evo.refl so.toList B) ?_; refine aet 3 rfl (fun _ hS => aX rfl) (Evo.refl so.toList B) ?_; refine aet 4 rfl (fun _ hS => aX rfl) (Evo.refl so.toList B) ?_; refine aet 5 rfl (fun _ hS => dJ rfl rfl (by omega) (by omega)) (Evo.refl so.toList B) ?_; refine aet 6 rfl (fun _ hS => eD (n := o'.length) rfl rfl haq (by omega) fI (by omega)) (Evo.refl so.toList B) ?_; refine aet 7 rfl (fun _ hS => aD rfl eT) (Evo.refl so.toList B) ?_; refine aet 9 rfl (fun _ hS => aD rfl eT) (Evo.refl so.toList B) ?_; refine aet 10 rfl (fun _ hS => aS rfl cO (aY (hS.blk (F.blk0 (A.blk0 D)) (b4.symm.nmem)) rfl)) (Evo.refl so.toList B) ?_; refine bV [8] (by kernel_rfl) rfl ⟨?_, trivial⟩; refine cA rfl ?_
     refine aA (aS rfl cO ((((b5.then A).then F)).cell (hcq 1 _ rfl) (by simp))) ?_; refine aQ (bO (.inl (Evo.refl so.toList B)) ?_); refine bV [11] (by kernel_rfl) rfl ⟨?_, trivial⟩; refine cA rfl ?_; refine aA (CY rfl rfl) ?_; refine aQ (bO (.inl (Evo.refl so.toList B)) ?_); refine aet 12 rfl (fun _ hS => eD (n := o'.length) rfl rfl haq (by omega) fI (by omega)) (Evo.refl so.toList B) ?_; refine aet 13 rfl (fun _ hS => aD rfl eT) (Evo.refl so.toList B) ?_; refine bV [14] (by kernel_rfl) rfl ⟨?_, trivial⟩; refine cA rfl ?_
     obtain ⟨g54, cur45, hg46, hx47, hcu48, hcs49, -⟩ := a4.at (by omega)
     rw [haq] at hx47; cases hx47
     refine fW rfl rfl (rfl) iD hcu48 (a4.inb hcs49 (k := o'.length) (j := 1) (by omega) (by omega) (by omega)) fun e1 c8 H => ?_; replace H := jQ hg46 H; refine aQ (bO (.inl ((Evo.refl so.toList B).step H (fun y hy => .inl hy))) ?_); refine dH (by kernel_rfl) (aC ?_); refine cN (bL (cM (aC ?_))); refine aG ?_; refine aA (aK rfl rfl (by omega) (by omega)) ?_; refine aB (aQ (bA ?_)); refine ⟨⟨k + 1, n, o' ++ [(q.1, max q.2 m[k].2)], sa, sc, so⟩, ?_, ⟨rfl, rfl, trivial⟩, ⟨rfl, rfl, rfl, trivial⟩, (((U.then A).then F).step H hge.mem), ?_⟩
     · (try dsimp only); omega
     try dsimp only
     have c3 := (a4.set' hg46 hcu48 c8); rw [HW _ _ _ _ rfl, xR] at c3; exact ⟨mg_ext hp hk' hvm a3, (((a0.evo0 A).evo0 F).evo H hap.own), c3, hge, hgc, hap⟩
    refine aM (aC (aG (aB (aA (bW rfl lS fY (A.blk0 D) rfl) (bM (vs := [_]) rfl gG rfl rfl rfl rfl fun e2 e3 c9 d5 a5 => ?_))))); have b6 := (U.then A).then a5; have b7 := (a0.evo0 A).evo0 a5
    refine cZ rfl rfl rfl rfl fJ ((V.evo0 A).evo0 a5) (Src.ofOwn c9 ⟨by first | rfl | assumption, by first | rfl | assumption, trivial⟩) (by have := hp.len; omega) fun a2 c2 e4 ob2 b8 b9 hob81 => ?_
    refine bX (aQ (aP (aC (aG ?_)))); refine aA (aK rfl rfl (by omega) (by omega)) ?_; refine aB (aQ (bA ?_)); refine ⟨⟨k + 1, n + 1, (o' ++ [q]) ++ [m[k]], a2, c2, ob2⟩, ?_, ⟨rfl, rfl, trivial⟩, ⟨rfl, rfl, rfl, trivial⟩, (b6.step b9 hge.mem), ?_⟩
    · (try dsimp only); omega
    try dsimp only
    refine ⟨TO hp hk' hvm hsm (.inr ⟨o', q, rfl, a3⟩), (b7.evo b9 hap.own), ?_, (hge.app b6 hob81), hgc, (hap.app (Lt.own b7) hob81)⟩
    rw [jF]; exact b8
   refine qln ?_; refine qln ?_; refine qln ?_; refine qln ?_; refine qln ?_; refine qln ?_; refine qln ?_; refine qln ?_; refine qln ?_; refine qln ?_; refine bD (fun _ A => gI rfl rfl) ?_; refine eL (fun c7 A => aC ?_); refine cK rfl ?_; refine aM (aC (aG (aB (aA (bW rfl lS fY (A.blk0 D) rfl) (bM (vs := [_]) rfl gG rfl rfl rfl rfl fun e5 e6 d0 d6 M => ?_))))); have a6 := (U.then A).then M; have a7 := (a0.evo0 A).evo0 M
   refine cZ rfl rfl rfl rfl fJ ((V.evo0 A).evo0 M) (Src.ofOwn d0 ⟨by first | rfl | assumption, by first | rfl | assumption, trivial⟩) (by have := hp.len; omega) fun a2 c2 d7 ob2 b8 a8 hob117 => ?_
   refine bX (aQ (aP (aC (aG ?_)))); refine aA (aK rfl rfl (by omega) (by omega)) ?_; refine aB (aQ (bA ?_)); refine ⟨⟨k + 1, n + 1, o ++ [m[k]], a2, c2, ob2⟩, ?_, ⟨rfl, rfl, trivial⟩, ⟨rfl, rfl, rfl, trivial⟩, (a6.step a8 hge.mem), ?_⟩
   · (try dsimp only); omega
   try dsimp only
   refine ⟨TO hp hk' hvm hsm (.inl (List.length_eq_zero_iff.1 (by omega))), (a7.evo a8 hap.own), ?_, (hge.app a6 hob117), hgc, (hap.app (Lt.own a7) hob117)⟩
   rw [jF]; exact b8
  refine cN (bL (bL (cM (aC ?_)))); refine csr (aB (wan (aH (br1 ?_)))); have e := mg_end hp (by omega) hpm hS; subst e; subst hon; exact ⟨sa, sc, so, rfl, hown, hge, by omega, hp.can, fun c => by rw [hp.eq, List.take_of_length_le (by omega), EY hpm, hS], a9⟩
theorem tJ : dY Try.prog 61 := ⟨_, Try.func61, by kernel_rfl, by kernel_rfl⟩
structure NgG where
  k : Nat
  n : Nat
  o : List (Int × Int)
  nx : Int
  sa : Option Addr
  sc : Nat
  so : Option Nat
structure NgI (w wr : World) (m : List (Int × Int)) (a1 : Option Addr) (c1 : Nat) (ob1 : Option Nat) (x : NgG) : Prop where
  hk : x.k ≤ m.length
  eq : x.o ++ rB x.nx (m.drop x.k) = rB 0 m
  b0 : 0 ≤ x.nx
  b1 : x.nx ≤ 1114112
  len : x.n ≤ x.k
  cl : OwnS wr 78 2 a1 m.length c1 (cW m) ob1
  own : OwnS wr 78 2 x.sa x.n x.sc (cW x.o) x.so
  ge : Ge w x.so
  gc : Ge w ob1
  ap : Apart ob1 x.so
theorem OS (b : Int) {m : List (Int × Int)} {k : Nat} (h : k < m.length) : rB b (m.drop k) = (if b < m[k].1 then [(b, m[k].1 - 1)] else []) ++ rB (m[k].2 + 1) (m.drop (k + 1)) := by
  rw [List.drop_eq_getElem_cons h, rB]
theorem NO {m : List (Int × Int)} (h : sO m) : ∀ {k : Nat} (hk : k < m.length), 0 ≤ m[k].1 ∧ m[k].1 ≤ m[k].2 ∧ m[k].2 ≤ 1114111 := by
  have key : ∀ {m : List (Int × Int)} {b : Int}, 0 ≤ b → iE b m → ∀ {k : Nat} (hk : k < m.length), 0 ≤ m[k].1 ∧ m[k].1 ≤ m[k].2 ∧ m[k].2 ≤ 1114111 := by
    intro m
    induction m with
    | nil => intro b _ _ k hk; cases hk
    | cons g m ih =>
      intro b hb hc k hk
      rw [iE] at hc
      cases k with
      | zero => exact ⟨by show 0 ≤ g.1; omega, hc.2.1, hc.2.2.1⟩
      | succ k => exact ih (b := g.2 + 2) (by omega) hc.2.2.2 (by simpa using hk)
  intro k hk
  exact key (Int.le_refl _) h hk
theorem vA {m : List (Int × Int)} (h : sO m) : Vr m := fun g hg => by
  obtain ⟨k, hk, rfl⟩ := List.getElem_of_mem hg
  exact NO h hk
theorem AV {m : List (Int × Int)} {S : Int → Prop} (h : sO m) (hS : ∀ c, InR c m ↔ S c) : sO (rB 0 m) ∧ (∀ c, InR c (rB 0 m) ↔ uT S c) ∧ rB 0 m = jC (uT S) := by
  obtain ⟨h1, h2⟩ := CR (b := 0) (d := 0) (Int.le_refl _) (Int.le_refl _) h
  have h3 : ∀ c, InR c (rB 0 m) ↔ uT S c := fun c => by rw [h2, hS]; exact Iff.rfl
  exact ⟨h1, h3, (pH h1 h3).symm⟩
theorem lJ {w : World} {a : Option Addr} {c : Nat} {l : List (Int × Int)} {ob : Option Nat} (hO : OwnS w 78 2 a l.length c (cW l) ob) (hv : Vr l) (hl : l.length ≤ 1000000) {S : Int → Prop} (hS : ∀ c, InR c l ↔ S c) :
    Calls Try.prog 57 #[.slice a l.length c] w (Ret fun v w' => RsOut w w' v (uT S) (l.length + 1)) := by
  refine bE (N := 38) Try.func57 rfl rfl rfl ?_; refine csr (wan (csr (wan (csr (wan (aI (csr ?_))))))); refine aB (aL (vs := [_]) tJ rfl (uU hO hv hl hS) rfl ?_); rintro _ w1 ⟨a1, c1, ob1, rfl, b6, hg1, hml, hcan, heqS, b7⟩
  generalize hm : jC S = m at *
  refine aA (aZ rfl Try.underlying34 rfl) ?_; refine aB (wnn (bJ ?_))
  refine dA (α := NgG) (⟨0, 0, [], 0, none, 0, none⟩) (fun x => [(3, .slice x.sa x.n x.sc), (10, .int .i64 (x.k : Nat)), (4, .int .i32 x.nx)]) [(2, _), (8, _), (9, _)] (fun x wr => Evo [] w wr ∧ (NgI w wr m a1 c1 ob1 x)) (fun x => m.length - x.k) ⟨rfl, rfl, rfl, trivial⟩ ⟨rfl, rfl, rfl, trivial⟩ ⟨((Evo.refl [] w).then b7), ⟨Nat.zero_le _, rfl, Int.le_refl _, (by show (0 : Int) ≤ 1114112; omega), Nat.le_refl _, b6, OwnS.nil _ _ _, Ge.nil _, hg1, Apart.nil _⟩⟩ ?_
  rintro ⟨k, n, o, nx, sa, sc, so⟩ wr5 ⟨H, ⟨hk, heq, hb0, hb1, hlen, hcl, hown, hge, hgc, hap⟩⟩; show CW _ _ _ _ [(3, .slice sa n sc), (10, .int .i64 (k : Nat)), (4, .int .i32 nx), (2, _), (8, _), (9, _)] _
  try dsimp only at hk heq hb0 hb1 hlen hcl hown hge hgc hap
  refine csr (aA (cU rfl rfl) ?_); refine wnn (aI (aW rfl (fun a5 => ?_) (fun a5 => ?_)))
  ·have hk' : k < m.length := by omega
   have hmk := NO hcan hk'; obtain ⟨g1, hg1', ha1, b9⟩ := oW hcl hk'; have hgc0 := OS nx hk'; refine aM (aC (aI (bJ (csr ?_)))); refine aA (cP (n := k) rfl rfl ha1 fI (by omega)) ?_; refine aA (cY rfl lS fY (vs := [_, _]) rfl (b9.evo (Evo.refl ([]) wr5) (by simp))) ?_; refine cL rfl nQ fun b8 w9 a6 I J => ?_; have a0 := Apart.new (Lt.own hown) I; refine aV rfl rfl fY a6 rfl rfl ⟨by first | rfl | assumption, by first | rfl | assumption, trivial⟩ fun c4 D L => ?_; have M := (H.then J).step L (Ge.new H I).mem1; have a3 := (hown.evo0 J).evo L a0.own1; have O := (hcl.evo0 J).evo L (Apart.new (Lt.own hcl) I).own1
   try simp only [cH, Nat.reduceAdd] at D
   refine wnn (aI (csr (wfl rfl fU rfl cO D rfl (aB (aA (fE rfl rfl) ?_))))); refine wnn (aW rfl (fun a7 => ?_) (fun a7 => ?_))
   ·refine aG (aB (aB (wfl rfl fU rfl cO D rfl ?_))); refine aA (JA rfl rfl (by omega) (by omega)) ?_; refine aA (cC (vs := [(0, _), (1, _)]) kN rfl (cells := [_, _]) rfl) ?_; refine bM (vs := [_]) rfl gG rfl rfl rfl rfl fun c5 c6 a8 c0 B => ?_; refine cZ rfl rfl rfl rfl fJ (a3.evo0 B) (Src.ofOwn a8 ⟨by first | rfl | assumption, by first | rfl | assumption, trivial⟩) (by omega) fun a2 c2 c7 ob2 a4 U hob49 => ?_; refine wan (aG (wfl rfl eT rfl cO (U.blk (B.blk0 D) a0.symm.nmem) rfl ?_)); refine aA (iN rfl rfl (by omega) (by omega)) ?_; refine bX (aQ (aP (aC (aG ?_)))); refine aA (aK rfl rfl (by omega) (by omega)) ?_; refine aB (aQ (bA ?_)); refine ⟨⟨k + 1, n + 1, o ++ [(nx, m[k].1 - 1)], m[k].2 + 1, a2, c2, ob2⟩, ?_, ⟨rfl, rfl, rfl, trivial⟩, ⟨rfl, rfl, rfl, trivial⟩, ((M.then B).step U hge.mem), ?_⟩
    · (try dsimp only); omega
    try dsimp only
    refine ⟨hk', ?_, (by show 0 ≤ m[k].2 + 1; omega), (by show m[k].2 + 1 ≤ 1114112; omega), (by show n + 1 ≤ k + 1; omega), ((O.evo0 B).evo U hap.own), ?_, (hge.app (M.then B) hob49), hgc, (hap.app (Lt.own (O.evo0 B)) hob49)⟩
    · rw [← heq, hgc0, if_pos (by omega), List.append_assoc]
    · rw [nX]; exact a4
   refine aM (aC (aG (wfl rfl eT rfl cO D rfl ?_))); refine aA (iN rfl rfl (by omega) (by omega)) ?_; refine bX (aQ (aP (aC (aG ?_)))); refine aA (aK rfl rfl (by omega) (by omega)) ?_; refine aB (aQ (bA ?_)); refine ⟨⟨k + 1, n, o, m[k].2 + 1, sa, sc, so⟩, ?_, ⟨rfl, rfl, rfl, trivial⟩, ⟨rfl, rfl, rfl, trivial⟩, M, ?_⟩
   · (try dsimp only); omega
   try dsimp only
   refine ⟨hk', ?_, (by show 0 ≤ m[k].2 + 1; omega), (by show m[k].2 + 1 ≤ 1114112; omega), (by show n ≤ k + 1; omega), O, a3, hge, hgc, hap⟩
   rw [← heq, hgc0, if_neg (by omega), List.nil_append]
  refine cN (bL (bL (cM (aC ?_)))); refine aI (csr (aB (aA (eW rfl rfl) ?_))); refine wnn (aW rfl (fun a9 => ?_) (fun a9 => ?_))
  ·refine aG (aB (aB (aA (cC (vs := [(0, _), (1, _)]) kN rfl (cells := [_, _]) rfl) ?_))); refine bM (vs := [_]) rfl gG rfl rfl rfl rfl fun c8 c9 b4 c3 V => ?_; refine cZ rfl rfl rfl rfl fJ (hown.evo0 V) (Src.ofOwn b4 ⟨by first | rfl | assumption, by first | rfl | assumption, trivial⟩) (by omega) fun a2 c2 d0 ob2 a4 b5 hob78 => ?_; refine wan (csr (aB (wan (aH (br1 ?_))))); obtain ⟨h1, h2, h3⟩ := AV hcan heqS; rw [List.drop_eq_nil_of_le (by omega), rB, if_pos (by omega)] at heq; have A : OwnS _ _ 2 _ _ _ (cW o ++ cW [(nx, 1114111)]) _ := a4; rw [← jF, heq] at A; have F := pV A; rw [h3] at A F h1 h2
   exact ⟨a2, c2, ob2, by rw [F], by rw [← F]; exact A, (hge.app (H.then V) hob78), by omega, h1, h2, ((H.then V).step b5 hge.mem)⟩
  refine aM (aC (csr (aB (wan (aH (br1 ?_)))))); obtain ⟨h1, h2, h3⟩ := AV hcan heqS; rw [List.drop_eq_nil_of_le (by omega), rB, if_neg (by omega), List.append_nil] at heq; have A := hown; rw [heq] at A; have F := pV A; rw [h3] at A F h1 h2
  exact ⟨sa, sc, so, by rw [F], by rw [← F]; exact A, hge, by omega, h1, h2, H⟩
end Go.Proofs.Ytidpigbinpaaeaa
