/- Dot: part 1 of 5 of what the law rests on. -/
import Derived.Test.YtidpigbinpaaeaaRows
import Derived.WalkKit
import Derived.OrdersHeld
import Derived.Deep.LoopGhost
import Derived.Deep.Quiet
import Derived.KernelRfl
import Derived.ProofKit
import Derived.OpenShut
import Derived.SizedLaws
import Derived.ChangeOld
import Derived.JoinedCond
import Derived.Deep.DeepHandedRow
import Derived.HandedShaped
import Derived.Lib.LaidTab
import Derived.Lay
import Derived.Shelf.Small.Bits
import Derived.Shelf.Small.Strs
import Derived.Shelf.Small.Wraps
import Derived.Shelf.Strconv.Itoa0
import Derived.Shelf.Strings.Search1
import Derived.Shelf.Strings.Search2
import Derived.Shelf.Strings.Search3
import Derived.Shelf.LaysM
import Derived.Shelf.Strings.Shaped
import Derived.Shelf.Strings.Prefix
import Derived.Test.YtidpigbinpaaeaaProg
import Derived.Shelf.SlSortCmp.WholeK
import Derived.Ground.SlsfProg
import Derived.Laws.MakeOwn
import Derived.Laws.OwnMore
import Derived.Laws.BytesString
import Derived.Laws.RangeAny
import Derived.Laws.Strings2
import Derived.Laws.Slices
import Derived.Laws.Small
import Derived.Laws.Concat
import Derived.Lib.DecodeN
import Derived.Scope
import Derived.RangeFuncNested
import Derived.RangeFuncLeaves
import Derived.RangeFuncCalls
import Derived.TacticsIn
import Derived.OwnWalkIn
import Derived.Maps.RangeRun
import Derived.WalkSmall
import Derived.Recover
import Derived.Lib.AppendStr
import Derived.Lib.TrailingZeros
import Derived.Shelf.GgSortFunc.RowK
import Derived.Shelf.SlSortCmp.NoneTotal
import Derived.Lib.Index
import Derived.Lib.ItoaNum
import Derived.Shelf.Sort.Plain
import Derived.Shelf.Slices.CompactS
import Derived.Shelf.Slices.In.SortNone
import Derived.Shelf.Slices.Cells
import Derived.Shelf.Slices.Clone
import Derived.Lib.Repeat
set_option linter.unusedSectionVars false
set_option linter.unusedSimpArgs false
set_option linter.unusedVariables false
namespace Go.W
theorem cH : (∀ {α : Type} (l : List α) (i : Nat) (a : α), l.toArray.setIfInBounds i a = (l.set i a).toArray) ∧ (∀ {α : Type} (x a : α) (l : List α), (x :: l).set 0 a = a :: l) ∧ (∀ {α : Type} (x a : α) (l : List α) (n : Nat), (x :: l).set (n + 1) a = x :: l.set n a) ∧ (∀ n : Nat, 0 + n = n) ∧ (∀ n : Nat, n + 0 = n) := ⟨fun _ _ _ => List.setIfInBounds_toArray .., fun _ _ _ => rfl, fun _ _ _ _ => rfl, Nat.zero_add, Nat.add_zero⟩
abbrev Env := List (Nat × Value)
def Env.get : Env → Nat → Option Value
  | [], _ => none
  | (k, v) :: r, t => cond (Nat.beq k t) (some v) (Env.get r t)
def Env.ev (σ : Env) : Operand → Option Value
  | .tmp t => σ.get t
  | .const v => some v
  | .global g => some (.pointer (some ⟨g, 0, none⟩))
  | .func f => some (.func (.func f) #[] #[])
abbrev NN := Nat × List Deferred
def Fits (N : NN) (σ : Env) (a : Act) : Prop := a.tmps.size = N.1 ∧ a.defers = N.2 ∧ ∀ t v, σ.get t = some v → a.tmps.getD t undef = v
def DR (σ : Env) (ρ : Operand → Value) : Prop := ∀ x v, σ.ev x = some v → ρ x = v
theorem Fits.agrees {N : NN} {σ : Env} {a : Act} (h : Fits N σ a) : DR σ a.eval := by
  intro x v hx
  cases x with
  | tmp t => exact h.2.2 t v hx
  | const u => simp only [Env.ev, Option.some.injEq] at hx; exact hx
  | global g => simp only [Env.ev, Option.some.injEq] at hx; exact hx
  | func f => simp only [Env.ev, Option.some.injEq] at hx; exact hx
theorem Fits.put {N : NN} {σ : Env} {a : Act} (h : Fits N σ a) {d : Nat} (hd : d < N.1) (v : Value) : Fits N ((d, v) :: σ) (a.put (some d) v) := by
  refine ⟨by simp [Act.put, h.1], h.2.1, fun t u hu => ?_⟩
  simp only [Env.get] at hu
  cases hk : Nat.beq d t with
  | true =>
    rw [hk] at hu
    have : d = t := Nat.eq_of_beq_eq_true hk
    subst this
    simp only [cond_true, Option.some.injEq] at hu
    have hs : d < a.tmps.size := by rw [h.1]; exact hd
    simp [Act.put, hs, hu]
  | false =>
    rw [hk] at hu
    have hne : d ≠ t := Nat.ne_of_beq_eq_false hk
    have := h.2.2 t u hu
    simp only [Act.put, Array.getD_eq_getD_getElem?, Array.getElem?_setIfInBounds_ne hne] at this ⊢
    exact this
def Sub : Env → Env → Prop
  | [], _ => True
  | (k, v) :: r, σ => σ.get k = some v ∧ Sub r σ
theorem Sub.get {S σ : Env} (h : Sub S σ) : ∀ t v, S.get t = some v → σ.get t = some v := by
  induction S with
  | nil => intro t v hv; cases hv
  | cons p r ih =>
    obtain ⟨k, u⟩ := p
    intro t v hv
    simp only [Env.get] at hv
    cases hk : Nat.beq k t with
    | true =>
      rw [hk] at hv
      have : k = t := Nat.eq_of_beq_eq_true hk
      subst this
      simp only [cond_true, Option.some.injEq] at hv
      subst hv
      exact h.1
    | false => rw [hk] at hv; exact ih h.2 t v hv
theorem Env.get_append {A B : Env} : ∀ t v, (A ++ B).get t = some v → A.get t = some v ∨ (A.get t = none ∧ B.get t = some v) := by
  induction A with
  | nil => intro t v h; exact .inr ⟨rfl, h⟩
  | cons p r ih =>
    obtain ⟨k, u⟩ := p
    intro t v h
    simp only [List.cons_append, Env.get] at h ⊢
    cases hk : Nat.beq k t with
    | true => rw [hk] at h; exact .inl h
    | false => rw [hk] at h; exact ih t v h
theorem Fits.app {N : NN} {A B σ τ : Env} {a : Act} (hA : Sub A σ) (hB : Sub B τ) (h : Fits N σ a) (h' : Fits N τ a) : Fits N (A ++ B) a :=
  ⟨h.1, h.2.1, fun t v hv => by
    rcases Env.get_append t v hv with h1 | ⟨_, h1⟩
    · exact h.2.2 t v (hA.get t v h1)
    · exact h'.2.2 t v (hB.get t v h1)⟩
abbrev iA := Exit → NN → Env → World → Prop
def toQ (R : iA) : Exit → Act → World → Prop
  | .panic c, a, w => ∃ N σ, Fits N σ a ∧ R (.panic c) N σ w
  | .outgrown, _, w => ∃ N : NN, R .outgrown N [] w
  | .normal, a, w => ∃ N σ, Fits N σ a ∧ R .normal N σ w
  | .exit i, a, w => ∃ N σ, Fits N σ a ∧ R (.exit i) N σ w
  | .goto l, a, w => ∃ N σ, Fits N σ a ∧ R (.goto l) N σ w
  | .ret, a, w => ∃ N σ, Fits N σ a ∧ R .ret N σ w
def CW (P : Program) (N : NN) (c : Code) (R : iA) (σ : Env) (w : World) : Prop := ∀ a, Fits N σ a → c.wp P (toQ R) a w
def oS (K : NN → Env → World → Prop) (R : iA) : iA
  | .normal, N, σ, w => K N σ w
  | .exit i, N, σ, w => R (.exit i) N σ w
  | .goto l, N, σ, w => R (.goto l) N σ w
  | .ret, N, σ, w => R .ret N σ w
  | .panic c, N, σ, w => R (.panic c) N σ w
  | .outgrown, N, σ, w => R .outgrown N σ w
def vD (id : Nat) (R : iA) : iA
  | .exit i, N, σ, w => cond (Nat.beq i id) (R .normal N σ w) (R (.exit i) N σ w)
  | .normal, N, σ, w => R .normal N σ w
  | .goto l, N, σ, w => R (.goto l) N σ w
  | .ret, N, σ, w => R .ret N σ w
  | .panic c, N, σ, w => R (.panic c) N σ w
  | .outgrown, N, σ, w => R .outgrown N σ w
section
variable {P : Program} {N : NN} {R : iA} {σ : Env} {w : World}
theorem aI {x y : Code} (h : CW P N x (oS (fun N σ w => CW P N y R σ w) R) σ w) : CW P N (.seq x y) R σ w := by
  intro a ha
  refine wp_seq (wp_mono (h a ha) ?_)
  intro e a' w' hq
  cases e with
  | normal => obtain ⟨N', σ', hf, hk⟩ := hq; exact hk a' hf
  | exit i => exact hq
  | goto l => exact hq
  | ret => exact hq
  | panic c => exact hq
  | outgrown => exact hq
theorem bJ {id : Nat} {c : Code} (h : CW P N c (vD id R) σ w) : CW P N (.block id c) R σ w := by
  intro a ha
  refine wp_block (wp_mono (h a ha) ?_)
  intro e a' w' hq
  cases e with
  | normal => exact hq
  | exit i =>
    obtain ⟨N', σ', hf, hk⟩ := hq
    simp only [vD] at hk
    simp only [Exit.inBlock]
    cases hb : Nat.beq i id with
    | true =>
      rw [hb] at hk
      rw [if_pos (Nat.eq_of_beq_eq_true hb)]
      exact ⟨N', σ', hf, hk⟩
    | false =>
      rw [hb] at hk
      rw [if_neg (Nat.ne_of_beq_eq_false hb)]
      exact ⟨N', σ', hf, hk⟩
  | goto l => exact hq
  | ret => exact hq
  | panic c => exact hq
  | outgrown => exact hq
theorem aM (h : R .normal N σ w) : CW P N .skip R σ w := fun _ ha => wp_skip ⟨N, σ, ha, h⟩
theorem UZ {l : Nat} (h : R .normal N σ w) : CW P N (.label l) R σ w := fun _ ha => wp_label ⟨N, σ, ha, h⟩
theorem cN {i : Nat} (h : R (.exit i) N σ w) : CW P N (.exit i) R σ w := fun _ ha => wp_exit ⟨N, σ, ha, h⟩
theorem aH (h : R .ret N σ w) : CW P N .ret R σ w := fun _ ha => wp_ret ⟨N, σ, ha, h⟩
theorem aW {c : Operand} {x y : Code} {p : Prop} [Decidable p] (hc : σ.ev c = some (.bool (decide p))) (ht : p → CW P N x R σ w) (hf : ¬ p → CW P N y R σ w) : CW P N (.cond c x y) R σ w := by
  intro a ha
  refine wp_cond_split (ha.agrees c _ hc) (fun h => ht (of_decide_eq_true h) a ha) (fun h => hf (of_decide_eq_false h) a ha)
theorem fG {c : Operand} {x y : Code} {b : Bool} (hc : σ.ev c = some (.bool b)) (ht : b = true → CW P N x R σ w) (hf : b = false → CW P N y R σ w) : CW P N (.cond c x y) R σ w := by
  intro a ha
  exact wp_cond_split (ha.agrees c _ hc) (fun h => ht h a ha) (fun h => hf h a ha)
theorem dD {c : Operand} {x y : Code} (hc : σ.ev c = some (.bool true)) (h : CW P N x R σ w) : CW P N (.cond c x y) R σ w :=
  fun a ha => wp_cond_true (ha.agrees c _ hc) (h a ha)
theorem cK {c : Operand} {x y : Code} (hc : σ.ev c = some (.bool false)) (h : CW P N y R σ w) : CW P N (.cond c x y) R σ w :=
  fun a ha => wp_cond_false (ha.agrees c _ hc) (h a ha)
theorem dA {c : Code} {α : Type} (x0 : α) (M : α → Env) (C : Env) (Φ : α → World → Prop) (μ : α → Nat) (hM : Sub (M x0) σ) (hC : Sub C σ) (h0 : Φ x0 w)
    (round : ∀ x w, Φ x w → CW P N c (oS (fun N' σ' w' => N' = N ∧ ∃ x', μ x' < μ x ∧ Sub (M x') σ' ∧ Sub C σ' ∧ Φ x' w') R) (M x ++ C) w) : CW P N (.loop c) R σ w := by
  intro a ha
  refine wp_loop_ghost (fun n a w => ∃ x, μ x = n ∧ Fits N (M x ++ C) a ∧ Φ x w) (μ x0) ⟨x0, rfl, Fits.app hM hC ha ha, h0⟩ ?_
  rintro n a w ⟨x, rfl, hf, hx⟩
  refine wp_mono (round x w hx a hf) ?_
  intro e a' w' hq
  cases e with
  | normal =>
    obtain ⟨N', σ', hf', rfl, x', hlt, hM', hC', hΦ⟩ := hq
    exact ⟨μ x', hlt, x', rfl, Fits.app hM' hC' hf' hf', hΦ⟩
  | exit i => exact hq
  | goto l => exact hq
  | ret => exact hq
  | panic c => exact hq
  | outgrown => exact hq
theorem aC {K : NN → Env → World → Prop} (h : K N σ w) : oS K R .normal N σ w := h
theorem bA {K : Env → World → Prop} (h : K σ w) : oS (fun N' σ' w' => N' = N ∧ K σ' w') R .normal N σ w := ⟨rfl, h⟩
theorem aP {id : Nat} (h : R .normal N σ w) : vD id R .normal N σ w := h
theorem aE {K : NN → Env → World → Prop} (h : R .ret N σ w) : oS K R .ret N σ w := h
theorem aN {id : Nat} (h : R .ret N σ w) : vD id R .ret N σ w := h
theorem bL {K : NN → Env → World → Prop} {i : Nat} (h : R (.exit i) N σ w) : oS K R (.exit i) N σ w := h
theorem cM {i : Nat} (h : R .normal N σ w) : vD i R (.exit i) N σ w := by
  show cond (Nat.beq i i) _ _
  rw [show Nat.beq i i = true from Nat.beq_refl i]
  exact h
theorem sF {i id : Nat} (hne : Nat.beq i id = false) (h : R (.exit i) N σ w) : vD id R (.exit i) N σ w := by
  show cond (Nat.beq i id) _ _
  rw [hne]
  exact h
end
section
variable {P : Program} {σ : Env} {w : World}
def Ret (Φ : Value → World → Prop) : Ending → World → Prop := fun e w' => ∃ v, e = .returned v ∧ Φ v w'
def nP (P : Program) (fn : Func) (E : Ending → World → Prop) : iA
  | .normal, N, σ, w => N.2 = [] ∧ ∀ a, Fits (a.tmps.size, a.defers) σ a → ∃ v, (results fn a.tmps).run P w = .ok v w ∧ E (.returned v) w
  | .ret, N, σ, w => N.2 = [] ∧ ∀ a, Fits (a.tmps.size, a.defers) σ a → ∃ v, (results fn a.tmps).run P w = .ok v w ∧ E (.returned v) w
  | .panic chain, N, _, w => N.2 = [] ∧ E (.panicked chain) w
  | .outgrown, _, _, w => E .outgrown w
  | .exit _, _, _, _ => False
  | .goto _, _, _, _ => False
def nF (k : Nat) : List Value → Env
  | [] => []
  | v :: r => (k, v) :: nF (k + 1) r
theorem pS : ∀ (l : List Value) (k t : Nat) (v : Value), (nF k l).get t = some v → k ≤ t ∧ l[t - k]? = some v := by
  intro l
  induction l with
  | nil => intro k t v h; cases h
  | cons u r ih =>
    intro k t v h
    simp only [nF, Env.get] at h
    cases hb : Nat.beq k t with
    | true =>
      rw [hb] at h
      have : k = t := Nat.eq_of_beq_eq_true hb
      subst this
      simp only [cond_true, Option.some.injEq] at h
      exact ⟨Nat.le_refl _, by simp [h]⟩
    | false =>
      rw [hb] at h
      have hne : k ≠ t := Nat.ne_of_beq_eq_false hb
      obtain ⟨h1, h2⟩ := ih (k + 1) t v h
      refine ⟨by omega, ?_⟩
      rw [show t - k = (t - (k + 1)) + 1 from by omega]
      simpa using h2
theorem bE {f : FuncId} {fn : Func} {c : Code} {args : List Value} {E : Ending → World → Prop} {N : Nat}
    (hf : P.funcs[f]? = some fn) (hb : fn.body = some c) (hN : fn.ntmps = N) (hle' : Nat.ble args.length N = true)
    (h : CW P (N, []) c (nP P fn E) (nF 0 args) w) : Calls P f args.toArray w E := by
  have hle : args.length ≤ N := Nat.le_of_ble_eq_true hle'; refine calls_of_wp hf hb (wp_mono (h _ ⟨?_, rfl, ?_⟩) ?_)
  · simp [hN]; omega
  · intro t v hv
    obtain ⟨_, h2⟩ := pS args 0 t v hv; simp only [Nat.sub_zero] at h2; have hlt : t < args.length := (List.getElem?_eq_some_iff.1 h2).1
    have h3 : args[t] = v := by rw [List.getElem?_eq_getElem hlt] at h2; exact Option.some.inj h2
    simp [Array.getElem?_append, hlt, h3]
  · intro e a' w' hq
    cases e with
    | normal => obtain ⟨N', σ', hf', hn, hk⟩ := hq; obtain ⟨v, h1, h2⟩ := hk a' (by rw [hf'.1, hf'.2.1]; exact hf'); exact ⟨hf'.2.1.trans hn, v, h1, h2⟩
    | ret => obtain ⟨N', σ', hf', hn, hk⟩ := hq; obtain ⟨v, h1, h2⟩ := hk a' (by rw [hf'.1, hf'.2.1]; exact hf'); exact ⟨hf'.2.1.trans hn, v, h1, h2⟩
    | panic ch => obtain ⟨N', σ', hf, hn, hk⟩ := hq; exact ⟨hf.2.1.trans hn, hk⟩
    | outgrown => obtain ⟨_, hk⟩ := hq; exact hk
    | exit i => obtain ⟨_, _, _, hk⟩ := hq; exact hk
    | goto l => obtain ⟨_, _, _, hk⟩ := hq; exact hk
theorem BK {n : Nat} {fn : Func} {Φ : Value → World → Prop} (hr : fn.results = #[]) (h : Φ (.tuple #[]) w) : nP P fn (Ret Φ) .ret (n, []) σ w :=
  ⟨rfl, fun _ _ => ⟨.tuple #[], results_none hr _ _ _, _, rfl, h⟩⟩
theorem eA {n : Nat} {fn : Func} {Φ : Value → World → Prop} (hr : fn.results = #[]) (h : Φ (.tuple #[]) w) : nP P fn (Ret Φ) .normal (n, []) σ w :=
  ⟨rfl, fun _ _ => ⟨.tuple #[], results_none hr _ _ _, _, rfl, h⟩⟩
theorem PT {n : Nat} {fn : Func} {t : Tmp} {v : Value} {Φ : Value → World → Prop} (hr : fn.results = #[.tmp t]) (hv : σ.get t = some v) (h : Φ v w) : nP P fn (Ret Φ) .ret (n, []) σ w :=
  ⟨rfl, fun a ha => ⟨v, by rw [results_tmp hr, ha.2.2 t v hv], _, rfl, h⟩⟩
theorem br1 {n : Nat} {fn : Func} {t : Tmp} {v : Value} {Φ : Value → World → Prop} (h : Φ v w) (hr : fn.results = #[.tmp t] := by rfl) (hv : σ.get t = some v := by rfl) : nP P fn (Ret Φ) .ret (n, []) σ w := PT hr hv h
theorem cJ {n : Nat} {fn : Func} {t u : Tmp} {v v' : Value} {Φ : Value → World → Prop} (hr : fn.results = #[.tmp t, .tmp u]) (hv : σ.get t = some v) (hv' : σ.get u = some v') (h : Φ (.tuple #[v, v']) w) : nP P fn (Ret Φ) .ret (n, []) σ w :=
  ⟨rfl, fun a ha => ⟨.tuple #[v, v'], by rw [results_tmp2 hr, ha.2.2 t v hv, ha.2.2 u v' hv'], _, rfl, h⟩⟩
end
structure Evo (X : List Nat) (w w' : World) : Prop where
  os : w'.os = w.os
  tape : w'.tape = w.tape
  output : w'.output = w.output
  size : w.heap.size ≤ w'.heap.size
  block : ∀ b, b < w.heap.size → b ∉ X → w'.heap[b]? = w.heap[b]?
theorem Evo.refl (X : List Nat) (w : World) : Evo X w w := ⟨rfl, rfl, rfl, Nat.le_refl _, fun _ _ _ => rfl⟩
theorem Evo.trans {X : List Nat} {a b c : World} (h : Evo X a b) (k : Evo X b c) : Evo X a c :=
  ⟨k.os.trans h.os, k.tape.trans h.tape, k.output.trans h.output, Nat.le_trans h.size k.size, fun i hi hx => (k.block i (Nat.lt_of_lt_of_le hi h.size) hx).trans (h.block i hi hx)⟩
theorem Evo.mono {X Y : List Nat} {w w' : World} (h : Evo X w w') (hxy : ∀ b, b ∈ X → b ∈ Y) : Evo Y w w' :=
  ⟨h.os, h.tape, h.output, h.size, fun b hb hy => h.block b hb (fun hx => hy (hxy b hx))⟩
theorem Evo.any {w w' : World} (h : Evo [] w w') (Y : List Nat) : Evo Y w w' := h.mono (fun _ hb => by cases hb)
theorem Evo.step {X Y : List Nat} {a b c : World} (h : Evo X a b) (k : Evo Y b c) (hy : ∀ y, y ∈ Y → y ∈ X ∨ a.heap.size ≤ y) : Evo X a c :=
  ⟨k.os.trans h.os, k.tape.trans h.tape, k.output.trans h.output, Nat.le_trans h.size k.size, fun i hi hx =>
    (k.block i (Nat.lt_of_lt_of_le hi h.size) (fun hiy => by rcases hy i hiy with h1 | h1 <;> first | exact hx h1 | omega)).trans (h.block i hi hx)⟩
theorem Evo.then {a b c : World} {X : List Nat} (h : Evo X a b) (k : Evo [] b c) : Evo X a c := h.step k (fun _ hy => by cases hy)
theorem Evo.blk {X : List Nat} {w w' : World} (h : Evo X w w') {b : Nat} {o : Obj} (hb : w.heap[b]? = some o) (hx : b ∉ X) : w'.heap[b]? = some o := by
  rw [h.block b (Array.getElem?_eq_some_iff.1 hb).1 hx]; exact hb
theorem Evo.blk0 {w w' : World} (h : Evo [] w w') {b : Nat} {o : Obj} (hb : w.heap[b]? = some o) : w'.heap[b]? = some o := h.blk hb (fun h => by cases h)
theorem Evo.cell {X : List Nat} {w w' : World} (h : Evo X w w') {a : Addr} {v : Value} (hc : w.cell? a = some v) (hx : a.block ∉ X) : w'.cell? a = some v :=
  (World.cell?_of_block (h.block a.block (World.block_lt_of_cell? w a hc) hx)).trans hc
theorem eM {w : World} {b : Nat} {o : Obj} (hb : w.heap[b]? = some o) : b < w.heap.size := (Array.getElem?_eq_some_iff.1 hb).1
theorem Evo.below {w w' : World} (h : Evo [] w w') : RowKit.Below w.heap.size w w' := ⟨h.os, h.tape, h.output, h.size, fun k hk => h.block k hk (fun h => by cases h)⟩
theorem UQ (w : World) : Evo [] w { w with drawn := w.drawn + 1 } := ⟨rfl, rfl, rfl, Nat.le_refl _, fun _ _ _ => rfl⟩
theorem pF (w : World) (o : Obj) : Evo [] w (w.alloc o) := ⟨rfl, rfl, rfl, by simp, fun k hk _ => RowKit.Below.heap_alloc w o k hk⟩
theorem FV (w : World) (a : Addr) (v : Value) : Evo [a.block] w (w.setCell a v) :=
  ⟨rfl, rfl, rfl, by simp, fun k _ hx => RowKit.Below.heap_setCell _ _ _ _ (fun e => hx (by simp [e]))⟩
def kT (P : Program) (t : TypeId) : Option Bool := (P.underlying t).map fun | .struct _ | .array _ _ => true | _ => false
def fQ (P : Program) (t : TypeId) : Option Nat := (P.info? t).map (·.size)
def cX (P : Program) (s : TypeId) (i : Nat) : Option Nat :=
  match P.underlying s with
  | some (.struct fs) => match fs[i]? with
    | some f => match P.info? f.type with
      | some n => if n.size = 0 then none else some f.offset
      | none => none
    | none => none
  | _ => none
def pG (P : Program) (t : TypeId) : Option Nat :=
  match P.underlying t with
  | some (.slice e) => (P.info? e).map (·.size)
  | _ => none
def dY (P : Program) (f : FuncId) : Prop := ∃ fn, P.funcs[f]? = some fn ∧ (fn.name == "runtime.NumGoroutine") = false ∧ fn.body.isNone = false
def Ex (P : Program) (σ : Env) (o : Oper) (w : World) (r : Value) (w' : World) : Prop := ∀ ρ, DR σ ρ → (execOp ρ o).run P w = .ok (.value r) w'
def ExS (P : Program) (σ : Env) (o : Oper) (w : World) (w' : World) : Prop := ∀ ρ, DR σ ρ → (execOp ρ o).run P w = .ok .skip w'
def WL (P : Program) (N : NN) (ops : Array Oper) (R : iA) (l : List Oper) (σ : Env) (w : World) : Prop := ∀ a, Fits N σ a → wpList P ops (toQ R) l a w
section
variable {P : Program} {N : NN} {R : iA} {σ : Env} {w w' : World} {ops : Array Oper} {rest : List Oper} {d : Nat} {op : Op} {T : TypeId} {pos : String} {after : Array Edge}
theorem aG {id : Nat} {l : List Oper} (h : WL P N l.toArray R l σ w) : CW P N (.region id l.toArray false) R σ w := fun a ha => wp_region_lit (h a ha)
theorem aQ (h : R .normal N σ w) : WL P N ops R [] σ w := fun _ ha => wpList_nil ⟨N, σ, ha, h⟩
theorem gC {r : Value} (hd : Nat.blt d N.1 = true) (hx : Ex P σ ⟨some d, op, T, pos, after, none⟩ w r w') (h : WL P N ops R rest ((d, r) :: σ) w') :
    WL P N ops R (⟨some d, op, T, pos, after, none⟩ :: rest) σ w := fun a ha => wpList_plain rfl fun K hK => by
  unfold Oper.wp
  rw [hx a.eval ha.agrees]
  exact hK _ _ (h _ (ha.put (of_decide_eq_true (by simpa using hd)) r))
theorem aA {r : Value} (hx : Ex P σ ⟨some d, op, T, pos, after, none⟩ w r w') (h : WL P N ops R rest ((d, r) :: σ) w') (hd : Nat.blt d N.1 = true := by rfl) : WL P N ops R (⟨some d, op, T, pos, after, none⟩ :: rest) σ w := gC hd hx h
theorem wl_skip (hx : ExS P σ ⟨none, op, T, pos, after, none⟩ w w') (h : WL P N ops R rest σ w') :
    WL P N ops R (⟨none, op, T, pos, after, none⟩ :: rest) σ w := fun a ha => wpList_plain rfl fun K hK => by
  unfold Oper.wp
  rw [hx a.eval ha.agrees]
  exact hK _ _ (h _ ha)
theorem wl_go {dst : Option Nat} {j : Nat} {pol : Bool} {oj : Oper} {t : Nat} (hj : ops[j]? = some oj) (ht : oj.dst = some t) (hv : σ.get t = some (.bool pol)) (hN : Nat.blt t N.1 = true)
    (h : WL P N ops R (⟨dst, op, T, pos, after, none⟩ :: rest) σ w) : WL P N ops R (⟨dst, op, T, pos, after, some (j, pol)⟩ :: rest) σ w := fun a ha => by
  have h1 := h a ha
  have hg : Region.wanted (⟨dst, op, T, pos, after, some (j, pol)⟩ : Oper) (yielded ops a.tmps) = true := by
    have hs : t < a.tmps.size := by rw [ha.1]; exact of_decide_eq_true (by simpa using hN)
    have := ha.2.2 t _ hv
    simp only [Array.getD_eq_getD_getElem?, Array.getElem?_eq_getElem hs, Option.getD_some] at this
    simp [Region.wanted, yielded, hj, ht, Array.getElem?_eq_getElem hs, this]
  unfold wpList at h1 ⊢
  rw [if_pos hg]
  rw [if_pos (by simp [Region.wanted])] at h1
  exact h1
theorem wl_no {j : Nat} {pol b : Bool} {oj : Oper} {t : Nat} (hj : ops[j]? = some oj) (ht : oj.dst = some t) (hv : σ.get t = some (.bool b)) (hb : b = !pol) (hN : Nat.blt t N.1 = true) (hd : Nat.blt d N.1 = true)
    (h : WL P N ops R rest ((d, undef) :: σ) w) : WL P N ops R (⟨some d, op, T, pos, after, some (j, pol)⟩ :: rest) σ w := fun a ha => by
  have hg : Region.wanted (⟨some d, op, T, pos, after, some (j, pol)⟩ : Oper) (yielded ops a.tmps) = false := by
    have hs : t < a.tmps.size := by rw [ha.1]; exact of_decide_eq_true (by simpa using hN)
    have := ha.2.2 t _ hv
    simp only [Array.getD_eq_getD_getElem?, Array.getElem?_eq_getElem hs, Option.getD_some] at this
    subst hb
    cases pol <;> simp [Region.wanted, yielded, hj, ht, Array.getElem?_eq_getElem hs, this]
  unfold wpList
  rw [if_neg (by rw [hg]; simp)]
  exact h _ (ha.put (of_decide_eq_true (by simpa using hd)) _)
theorem bC {l : List Oper} {t : Nat} {p : Prop} [Decidable p] (hv : σ.get t = some (.bool (decide p))) (ht : p → WL P N ops R l ((t, .bool true) :: σ) w) (hf : ¬ p → WL P N ops R l ((t, .bool false) :: σ) w) : WL P N ops R l σ w := by
  intro a ha
  by_cases h : p
  · refine ht h a ⟨ha.1, ha.2.1, fun u v hu => ?_⟩
    simp only [Env.get] at hu
    cases hb : Nat.beq t u with
    | true =>
      rw [hb] at hu
      have : t = u := Nat.eq_of_beq_eq_true hb
      subst this
      simp only [cond_true, Option.some.injEq] at hu
      rw [← hu, ha.2.2 t _ hv, decide_eq_true h]
    | false => rw [hb] at hu; exact ha.2.2 u v hu
  · refine hf h a ⟨ha.1, ha.2.1, fun u v hu => ?_⟩
    simp only [Env.get] at hu
    cases hb : Nat.beq t u with
    | true =>
      rw [hb] at hu
      have : t = u := Nat.eq_of_beq_eq_true hb
      subst this
      simp only [cond_true, Option.some.injEq] at hu
      rw [← hu, ha.2.2 t _ hv, decide_eq_false h]
    | false => rw [hb] at hu; exact ha.2.2 u v hu
theorem jM {l : List Oper} {t : Nat} {b : Bool} (hv : σ.get t = some (.bool b)) (ht : b = true → WL P N ops R l ((t, .bool true) :: σ) w) (hf : b = false → WL P N ops R l ((t, .bool false) :: σ) w) : WL P N ops R l σ w := by
  have hv' : σ.get t = some (.bool (decide (b = true))) := by rw [hv]; cases b <;> rfl
  exact bC hv' ht (fun h => hf (by simpa using h))
theorem wl_call {dst : Option Nat} {f : FuncId} {xs : Array Operand} {ats : Array TypeId} {vs : List Value} {Φ : Value → World → Prop} (hgo : dY P f) (hxs : xs.toList.map σ.ev = vs.map some)
    (hc : Calls P f vs.toArray w (Ret Φ)) (hd : ∀ k, dst = some k → Nat.blt k N.1 = true)
    (h : ∀ v w', Φ v w' → WL P N ops R rest (match dst with | some k => (k, v) :: σ | none => σ) w') :
    WL P N ops R (⟨dst, .call ⟨.value (.func f), xs, ats⟩, T, pos, after, none⟩ :: rest) σ w := fun a ha => wpList_plain rfl fun K hK => by
  have hargs : xs.map a.eval = vs.toArray := by
    apply Array.ext'
    rw [Array.toList_map]
    have hag := ha.agrees
    clear hK hc h ha
    generalize xs.toList = l at *
    clear xs
    revert vs
    induction l with
    | nil => intro vs hxs; cases vs with | nil => rfl | cons _ _ => simp at hxs
    | cons x l ih =>
      intro vs hxs
      cases vs with
      | nil => simp at hxs
      | cons v vs =>
        simp only [List.map_cons, List.cons.injEq] at hxs
        simp only [List.map_cons, hag x v hxs.1]
        exact congrArg _ (ih hxs.2)
  obtain ⟨fn, hf, hn, hbd⟩ := hgo
  unfold Oper.wp
  have hrun : (execOp a.eval ⟨dst, .call ⟨.value (.func f), xs, ats⟩, T, pos, after, none⟩).run P w = .ok (.enter f vs.toArray) w := by
    have hn' : ¬ fn.name = "runtime.NumGoroutine" := by simpa using hn
    have hb' : ¬ fn.body = none := by intro hh; simp [hh] at hbd
    simp only [execOp, resolve, hargs]
    simp [Act.eval, Deferred.ofValue, invoke, callFunc, hf, hn', hb']
  rw [hrun]
  show Calls P f vs.toArray w _
  refine hc.mono ?_
  rintro e w' ⟨v, rfl, hΦ⟩
  cases dst with
  | none => exact hK _ _ (h v w' hΦ a ha)
  | some k => exact hK _ _ (h v w' hΦ _ (ha.put (of_decide_eq_true (by simpa using hd k rfl)) v))
end
section
variable {P : Program} {σ : Env} {w : World} {dst : Option Nat} {T : TypeId} {pos : String} {after : Array Edge} {g : Option (Nat × Bool)}
theorem aX {x : Operand} {v : Value} (hx : σ.ev x = some v) : Ex P σ ⟨dst, .move x, T, pos, after, g⟩ w v w := fun ρ h => by
  simp [execOp, h x v hx]
theorem eG {x : Operand} {v : Value} (hx : σ.ev x = some v) : Ex P σ ⟨dst, .assign x, T, pos, after, g⟩ w v w := fun ρ h => by
  simp [execOp, h x v hx]
theorem fV {c x y : Operand} {v : Value} (hc : σ.ev c = some (.bool true)) (hx : σ.ev x = some v) : Ex P σ ⟨dst, .pick c x y, T, pos, after, g⟩ w v w := fun ρ h => by
  simp [execOp, h c _ hc, h x v hx, asBool]
theorem gI {c x y : Operand} {v : Value} (hc : σ.ev c = some (.bool false)) (hx : σ.ev y = some v) : Ex P σ ⟨dst, .pick c x y, T, pos, after, g⟩ w v w := fun ρ h => by
  simp [execOp, h c _ hc, h y v hx, asBool]
theorem oO {x : Operand} {t : TypeId} {p : Prop} [Decidable p] (hx : σ.ev x = some (.bool (decide p))) : Ex P σ ⟨dst, .unOp .not t x, T, pos, after, g⟩ w (.bool (decide (¬ p))) w := fun ρ h => by
  simp [execOp, h x _ hx, Op.unary]
theorem dR {x : Operand} {t : TypeId} {b : Bool} (hx : σ.ev x = some (.bool b)) : Ex P σ ⟨dst, .unOp .not t x, T, pos, after, g⟩ w (.bool (!b)) w := fun ρ h => by
  simp [execOp, h x _ hx, Op.unary]
theorem qB {bop : BinOp} {x y : Operand} {t t' : TypeId} {k : IntKind} {m n : Int} {v : Value} (hop : ∀ w : World, (Go.binOp bop t (.int k m) (.int k n)).run P w = .ok v w)
    (hx : σ.ev x = some (.int k m)) (hy : σ.ev y = some (.int k n)) : Ex P σ ⟨dst, .binOp bop t x y t', T, pos, after, g⟩ w v w := fun ρ h => by
  simp only [execOp, h x _ hx, h y _ hy]
  cases bop <;> simp [eqGuard, hop]
theorem wC {k : IntKind} {n : Int} (h : k.min ≤ n) (h' : n ≤ k.max) : k.wrap n = n := by
  cases k <;> simp only [IntKind.wrap, IntKind.min, IntKind.max, IntKind.bits, IntKind.signed] at * <;> simp at * <;> (try split) <;> omega
theorem UO {x y : Operand} {t t' : TypeId} {k : IntKind} {m n : Int} (hx : σ.ev x = some (.int k m)) (hy : σ.ev y = some (.int k n)) (h1 : k.min ≤ m + n) (h2 : m + n ≤ k.max) :
    Ex P σ ⟨dst, .binOp .add t x y t', T, pos, after, g⟩ w (.int k (m + n)) w := qB (fun w => by simp [Go.binOp, Op.intArith, wC h1 h2]) hx hy
theorem JB {x y : Operand} {t t' : TypeId} {k : IntKind} {m n : Int} (hx : σ.ev x = some (.int k m)) (hy : σ.ev y = some (.int k n)) (h1 : k.min ≤ m - n) (h2 : m - n ≤ k.max) :
    Ex P σ ⟨dst, .binOp .sub t x y t', T, pos, after, g⟩ w (.int k (m - n)) w := qB (fun w => by simp [Go.binOp, Op.intArith, wC h1 h2]) hx hy
theorem ex_mul {x y : Operand} {t t' : TypeId} {k : IntKind} {m n : Int} (hx : σ.ev x = some (.int k m)) (hy : σ.ev y = some (.int k n)) (h1 : k.min ≤ m * n) (h2 : m * n ≤ k.max) :
    Ex P σ ⟨dst, .binOp .mul t x y t', T, pos, after, g⟩ w (.int k (m * n)) w := qB (fun w => by simp [Go.binOp, Op.intArith, wC h1 h2]) hx hy
theorem lL {x y : Operand} {t t' : TypeId} {k : IntKind} {m n : Int} (hx : σ.ev x = some (.int k m)) (hy : σ.ev y = some (.int k n)) :
    Ex P σ ⟨dst, .binOp .eql t x y t', T, pos, after, g⟩ w (.bool (decide (m = n))) w := qB (fun w => by simp only [Go.binOp, Op.intCmp]; simp; rw [Bool.eq_iff_iff]; simp) hx hy
theorem gE {x y : Operand} {t t' : TypeId} {k : IntKind} {m n : Int} (hx : σ.ev x = some (.int k m)) (hy : σ.ev y = some (.int k n)) :
    Ex P σ ⟨dst, .binOp .neq t x y t', T, pos, after, g⟩ w (.bool (decide (m ≠ n))) w := qB (fun w => by simp only [Go.binOp, Op.intCmp]; simp; rw [Bool.eq_iff_iff]; simp) hx hy
theorem cU {x y : Operand} {t t' : TypeId} {k : IntKind} {m n : Int} (hx : σ.ev x = some (.int k m)) (hy : σ.ev y = some (.int k n)) :
    Ex P σ ⟨dst, .binOp .lss t x y t', T, pos, after, g⟩ w (.bool (decide (m < n))) w := qB (fun w => by simp [Go.binOp, Op.intCmp]) hx hy
theorem eW {x y : Operand} {t t' : TypeId} {k : IntKind} {m n : Int} (hx : σ.ev x = some (.int k m)) (hy : σ.ev y = some (.int k n)) :
    Ex P σ ⟨dst, .binOp .leq t x y t', T, pos, after, g⟩ w (.bool (decide (m ≤ n))) w := qB (fun w => by simp [Go.binOp, Op.intCmp]) hx hy
theorem fE {x y : Operand} {t t' : TypeId} {k : IntKind} {m n : Int} (hx : σ.ev x = some (.int k m)) (hy : σ.ev y = some (.int k n)) :
    Ex P σ ⟨dst, .binOp .gtr t x y t', T, pos, after, g⟩ w (.bool (decide (n < m))) w := qB (fun w => by simp [Go.binOp, Op.intCmp]) hx hy
theorem eF {x y : Operand} {t t' : TypeId} {k : IntKind} {m n : Int} (hx : σ.ev x = some (.int k m)) (hy : σ.ev y = some (.int k n)) :
    Ex P σ ⟨dst, .binOp .geq t x y t', T, pos, after, g⟩ w (.bool (decide (n ≤ m))) w := qB (fun w => by simp [Go.binOp, Op.intCmp]) hx hy
theorem aK {x y : Operand} {t t' : TypeId} {m n : Int} (hx : σ.ev x = some (.int .i64 m)) (hy : σ.ev y = some (.int .i64 n)) (h1 : -9223372036854775808 ≤ m + n) (h2 : m + n ≤ 9223372036854775807) :
    Ex P σ ⟨dst, .binOp .add t x y t', T, pos, after, g⟩ w (.int .i64 (m + n)) w := UO hx hy h1 h2
theorem dJ {x y : Operand} {t t' : TypeId} {m n : Int} (hx : σ.ev x = some (.int .i64 m)) (hy : σ.ev y = some (.int .i64 n)) (h1 : -9223372036854775808 ≤ m - n) (h2 : m - n ≤ 9223372036854775807) :
    Ex P σ ⟨dst, .binOp .sub t x y t', T, pos, after, g⟩ w (.int .i64 (m - n)) w := JB hx hy h1 h2
theorem fD {x y : Operand} {t t' : TypeId} {m n : Int} (hx : σ.ev x = some (.int .i64 m)) (hy : σ.ev y = some (.int .i64 n)) (h1 : -9223372036854775808 ≤ m * n) (h2 : m * n ≤ 9223372036854775807) :
    Ex P σ ⟨dst, .binOp .mul t x y t', T, pos, after, g⟩ w (.int .i64 (m * n)) w := ex_mul hx hy h1 h2
theorem iN {x y : Operand} {t t' : TypeId} {m n : Int} (hx : σ.ev x = some (.int .i32 m)) (hy : σ.ev y = some (.int .i32 n)) (h1 : -2147483648 ≤ m + n) (h2 : m + n ≤ 2147483647) :
    Ex P σ ⟨dst, .binOp .add t x y t', T, pos, after, g⟩ w (.int .i32 (m + n)) w := UO hx hy h1 h2
theorem JA {x y : Operand} {t t' : TypeId} {m n : Int} (hx : σ.ev x = some (.int .i32 m)) (hy : σ.ev y = some (.int .i32 n)) (h1 : -2147483648 ≤ m - n) (h2 : m - n ≤ 2147483647) :
    Ex P σ ⟨dst, .binOp .sub t x y t', T, pos, after, g⟩ w (.int .i32 (m - n)) w := JB hx hy h1 h2
theorem kH {x y : Operand} {t t' : TypeId} {m n : Int} (hx : σ.ev x = some (.int .u8 m)) (hy : σ.ev y = some (.int .u8 n)) (h1 : 0 ≤ m - n) (h2 : m - n ≤ 255) :
    Ex P σ ⟨dst, .binOp .sub t x y t', T, pos, after, g⟩ w (.int .u8 (m - n)) w := JB hx hy h1 h2
theorem aZ {x : Operand} {ats : Array TypeId} {t e : TypeId} {a : Option Addr} {n c : Nat} (hx : σ.ev x = some (.slice a n c)) (ht : P.underlying t = some (.slice e)) (hats : ats = #[t]) :
    Ex P σ ⟨dst, .call ⟨.builtin .len, #[x], ats⟩, T, pos, after, g⟩ w (.int .i64 n) w := fun ρ h => by
  subst hats
  simp [execOp, resolve, h x _ hx, invoke, builtin, Builtin.len_, run_underlying ht, goInt]
theorem bR {x : Operand} {ats : Array TypeId} {t : TypeId} {s : ByteArray} (hx : σ.ev x = some (.string s)) (ht : P.underlying t = some .string) (hats : ats = #[t]) :
    Ex P σ ⟨dst, .call ⟨.builtin .len, #[x], ats⟩, T, pos, after, g⟩ w (.int .i64 s.size) w := fun ρ h => by
  subst hats
  simp [execOp, resolve, h x _ hx, invoke, builtin, Builtin.len_, run_underlying ht, goInt]
theorem aF {x : Operand} {a : Addr} (hx : σ.ev x = some (.pointer (some a))) : Ex P σ ⟨dst, .nilCheck x, T, pos, after, g⟩ w (.pointer (some a)) w := fun ρ h => by
  simp [execOp, h x _ hx]
theorem aD {x : Operand} {s : TypeId} {i off b o : Nat} (hx : σ.ev x = some (.pointer (some ⟨b, o, none⟩))) (hf : cX P s i = some off) :
    Ex P σ ⟨dst, .fieldAddr s x i, T, pos, after, g⟩ w (.pointer (some ⟨b, o + off, none⟩)) w := fun ρ h => by
  simp only [cX] at hf
  split at hf <;> try cases hf
  rename_i fs hu
  split at hf <;> try cases hf
  rename_i f hfs
  split at hf <;> try cases hf
  rename_i n hn
  split at hf <;> try cases hf
  rename_i hsz
  have ha : (⟨b, o, none⟩ : Addr).add f.offset = ⟨b, o + f.offset, none⟩ := by unfold Addr.add; split <;> simp_all
  simp [execOp, h x _ hx, Instr.fieldAt, run_underlying hu, hfs, Instr.sureAddr, fieldPlace, sizeOf, typeInfo, hn, hsz, ha]
theorem cG {x i : Operand} {t : TypeId} {k : IntKind} {n sz b o len c : Nat} (hx : σ.ev x = some (.slice (some ⟨b, o, none⟩) len c)) (hi : σ.ev i = some (.int k n)) (he : pG P t = some sz) (hlt : n < len) :
    Ex P σ ⟨dst, .indexAddr t x i, T, pos, after, g⟩ w (.pointer (some ⟨b, o + n * sz, none⟩)) w := fun ρ h => by
  simp only [pG] at he
  split at he <;> try cases he
  rename_i e hu
  obtain ⟨inf, hin, hsz⟩ := Option.map_eq_some_iff.1 he
  have ha : (⟨b, o, none⟩ : Addr).add (n * sz) = ⟨b, o + n * sz, none⟩ := by unfold Addr.add; split <;> simp_all
  simp [execOp, h x _ hx, h i _ hi, Instr.indexAt, asIntOf, run_underlying hu, sizeOf, typeInfo, hin, hsz, hlt, ha]
theorem mV {t : TypeId} {b : Bool} (ht : kT P t = some b) (w : World) : (isAgg t).run P w = .ok b w := by
  obtain ⟨d, hd, hb⟩ := Option.map_eq_some_iff.1 ht
  subst hb
  cases d <;> simp [isAgg, run_underlying hd]
theorem aS {x : Operand} {t : TypeId} {b o : Nat} {v : Value} (hx : σ.ev x = some (.pointer (some ⟨b, o, none⟩))) (ht : kT P t = some false) (hc : w.cell? ⟨b, o, none⟩ = some v) :
    Ex P σ ⟨dst, .load t x, T, pos, after, g⟩ w v w := fun ρ h => by
  simp [execOp, h x _ hx, Instr.loadAt, Instr.sureAddr, loadVar, mV ht, hc]
theorem eS {b o : Nat} {cs : Array Value} {t : TypeId} {fz : Nat × Nat} {v : Value} (hb : w.heap[b]? = some (.cells cs t fz)) (hv : cs[o]? = some v) : w.cell? ⟨b, o, none⟩ = some v := by
  simp [World.cell?, hb, hv]
def nth : List Value → Nat → Option Value
  | [], _ => none
  | a :: _, 0 => some a
  | _ :: l, n + 1 => nth l n
theorem TD : ∀ (l : List Value) (n : Nat), nth l n = l[n]?
  | [], _ => by simp [nth]
  | _ :: _, 0 => by simp [nth]
  | _ :: l, n + 1 => by simp [nth, TD l n]
theorem aY {b o : Nat} {cs : Array Value} {t : TypeId} {fz : Nat × Nat} {v : Value} (hb : w.heap[b]? = some (.cells cs t fz)) (hv : nth cs.toList o = some v) : w.cell? ⟨b, o, none⟩ = some v :=
  eS hb (by rw [TD] at hv; simpa using hv)
theorem nW (b o : Nat) : ∀ (n i : Nat) (acc : Array Value) (vs : List Value), vs.length = n → (∀ j v, vs[j]? = some v → w.cell? ⟨b, o + (i + j), none⟩ = some v) →
    (loadCellsFrom ⟨b, o, none⟩ i n acc).run P w = .ok (acc ++ vs.toArray) w := by
  intro n
  induction n with
  | zero => intro i acc vs hl _; have : vs = [] := List.eq_nil_of_length_eq_zero hl; subst this; simp [loadCellsFrom]
  | succ n ih =>
    intro i acc vs hl hc
    cases vs with
    | nil => simp at hl
    | cons v vs =>
      have h0 := hc 0 v (by simp)
      have hadd : (⟨b, o, none⟩ : Addr).add i = ⟨b, o + (i + 0), none⟩ := by unfold Addr.add; split <;> simp_all
      have := ih (i + 1) (acc.push v) vs (by simpa using hl) (fun j u hu => by have := hc (j + 1) u (by simpa using hu); rw [show i + 1 + j = i + (j + 1) from by omega]; exact this)
      simp only [Nat.add_zero] at h0 hadd
      simp [loadCellsFrom, hadd, h0, this]
theorem cY {x : Operand} {t : TypeId} {b o n : Nat} {vs : List Value} (hx : σ.ev x = some (.pointer (some ⟨b, o, none⟩))) (ht : kT P t = some true) (hs : fQ P t = some n) (hl : vs.length = n)
    (hc : ∀ j v, vs[j]? = some v → w.cell? ⟨b, o + j, none⟩ = some v) : Ex P σ ⟨dst, .load t x, T, pos, after, g⟩ w (.agg vs.toArray) w := fun ρ h => by
  obtain ⟨inf, hin, hsz⟩ := Option.map_eq_some_iff.1 hs
  have hr := nW (P := P) (w := w) b o n 0 #[] vs hl (fun j v hv => by simpa using hc j v hv)
  simp [execOp, h x _ hx, Instr.loadAt, Instr.sureAddr, loadVar, mV ht, sizeOf, typeInfo, hin, hsz, loadCells, hr]
end
section
variable {P : Program} {σ : Env} {w : World} {dst : Option Nat} {T : TypeId} {pos : String} {after : Array Edge} {g : Option (Nat × Bool)}
end
theorem AG {P : Program} {t : TypeId} {cs : Array Value} {off : Nat} {v : Value} (w : World) (ht : kT P t = some false) (hv : cs[off]? = some v) : (part t cs off).run P w = .ok v w := by
  simp [part, mV ht, hv]
def mN (P : Program) (t : TypeId) : Option (Array Value) := ((P.info? t).bind (·.zero)).map Value.cells
theorem set_row (cs : Array Value) (o : Nat) (v : Value) (h : o < cs.size) : (cs.toList.take o ++ #[v].toList ++ cs.toList.drop (o + 1)).toArray = cs.setIfInBounds o v := by
  apply Array.toList_inj.1
  simp [List.set_eq_take_append_cons_drop, h]
theorem vE (w : World) (o : Obj) : (w.alloc o).heap[w.heap.size]? = some o := heap_alloc_new w o
theorem qW {P : Program} (b : Nat) (t : TypeId) : ∀ (vs : List Value) (o i : Nat) (cs : Array Value) (w : World), w.heap[b]? = some (.cells cs t (0, 0)) → o + i + vs.length ≤ cs.size → (∀ v, v ∈ vs → v.oneCell' = true) →
    ∃ w', (storeCells ⟨b, o, none⟩ vs i).run P w = .ok () w' ∧ w'.heap[b]? = some (.cells (cs.toList.take (o + i) ++ vs ++ cs.toList.drop (o + i + vs.length)).toArray t (0, 0)) ∧ Evo [b] w w' := by
  intro vs
  induction vs with
  | nil => intro o i cs w hb _ _; exact ⟨w, by simp [storeCells], by simpa using hb, Evo.refl _ _⟩
  | cons v vs ih =>
    intro o i cs w hb hle h1
    have hadd : (⟨b, o, none⟩ : Addr).add i = ⟨b, o + i, none⟩ := by unfold Addr.add; split <;> simp_all
    have hlt : o + i < cs.size := by simp at hle; omega
    have hc : w.cell? ⟨b, o + i, none⟩ = some cs[o + i] := eS hb (by simp [hlt])
    have hfz : w.frozen? ⟨b, o + i, none⟩ = false := by simp [World.frozen?, hb]
    have hb1 : (w.setCell ⟨b, o + i, none⟩ v).heap[b]? = some (.cells (cs.setIfInBounds (o + i) v) t (0, 0)) := by
      simp only [World.setCell, Array.getElem?_modify, if_true, hb, Option.map_some]; rfl
    obtain ⟨w', hr, hb', he⟩ := ih o (i + 1) _ _ hb1 (by simp at hle ⊢; omega) (fun u hu => h1 u (List.mem_cons_of_mem _ hu))
    refine ⟨w', ?_, ?_, (FV w ⟨b, o + i, none⟩ v).trans he⟩
    · simp [storeCells, hadd, run_store P w _ v .plain (h1 v (by simp)), hc, hfz, hr]
    · rw [hb']
      congr 3
      apply List.ext_getElem?
      intro j
      simp only [Array.toList_setIfInBounds, List.append_assoc, List.getElem?_append, List.length_take, List.length_set, Array.length_toList, List.getElem?_take, List.getElem?_drop, List.length_cons, List.getElem?_set]
      by_cases h2 : j < o + i
      · simp [h2, show j < o + (i + 1) by omega, show j < min (o + (i + 1)) cs.size by omega, show j < min (o + i) cs.size by omega, show ¬ o + i = j by omega]
      · by_cases h3 : j = o + i
        · subst h3
          simp [show o + i < o + (i + 1) by omega, show o + i < min (o + (i + 1)) cs.size by omega, show ¬ (o + i < min (o + i) cs.size) by omega, hlt, show o + i - min (o + i) cs.size = 0 by omega]
        · simp only [show ¬ j < min (o + (i + 1)) cs.size by omega, show ¬ j < min (o + i) cs.size by omega, if_false]
          rw [show min (o + (i + 1)) cs.size = o + i + 1 by omega, show min (o + i) cs.size = o + i by omega]
          obtain ⟨m, rfl⟩ : ∃ m, j = o + i + 1 + m := ⟨j - (o + i + 1), by omega⟩
          rw [show o + i + 1 + m - (o + i + 1) = m by omega, show o + i + 1 + m - (o + i) = m + 1 by omega]
          simp only [List.getElem?_cons_succ, Nat.add_lt_add_iff_right, Nat.add_sub_add_right]
          split
          · rfl
          · rename_i h4
            rw [if_neg (by omega)]
            congr 1
            omega
section
variable {P : Program} {N : NN} {R : iA} {σ : Env} {w : World} {ops : Array Oper} {rest : List Oper} {d : Nat} {T : TypeId} {pos : String} {after : Array Edge}
theorem bW {x : Operand} {t U : TypeId} {b n : Nat} {cs : Array Value} {fz : Nat × Nat} {dst : Option Nat} {g : Option (Nat × Bool)} (hx : σ.ev x = some (.pointer (some ⟨b, 0, none⟩))) (ht : kT P t = some true) (hs : fQ P t = some n)
    (hb : w.heap[b]? = some (.cells cs U fz)) (hl : cs.size = n) : Ex P σ ⟨dst, .load t x, T, pos, after, g⟩ w (.agg cs) w := by
  have := cY (P := P) (σ := σ) (w := w) (dst := dst) (T := T) (pos := pos) (after := after) (g := g) (vs := cs.toList) hx ht hs (by simpa using hl) (fun j v hv => eS hb (by simpa using hv))
  simpa using this
theorem wl_box {e : TypeId} {x : Operand} {v : Value} {cs : Array Value} (hd : Nat.blt d N.1 = true) (hx : σ.ev x = some v) (hc : v.cells = cs)
    (h : ∀ b w', w'.heap[b]? = some (.cells cs e (0, 0)) → w.heap.size = b → Evo [] w w' → WL P N ops R rest ((d, .pointer (some ⟨b, 0, none⟩)) :: σ) w') :
    WL P N ops R (⟨some d, .box e x, T, pos, after, none⟩ :: rest) σ w := by
  subst hc
  refine gC (w' := w.alloc (.cells v.cells e)) hd (fun ρ ha => ?_) (h _ _ (vE w _) rfl (pF w _))
  simp [execOp, ha x v hx, Instr.box, newVar, newRow]
theorem gD {e : TypeId} {x : Operand} {cs : Array Value} (hd : Nat.blt d N.1 = true) (hx : σ.ev x = some (.agg cs))
    (h : ∀ b w', w'.heap[b]? = some (.cells cs e (0, 0)) → w.heap.size = b → Evo [] w w' → WL P N ops R rest ((d, .pointer (some ⟨b, 0, none⟩)) :: σ) w') :
    WL P N ops R (⟨some d, .box e x, T, pos, after, none⟩ :: rest) σ w := wl_box hd hx rfl h
theorem cL {e : TypeId} {cs : Array Value} (hd : Nat.blt d N.1 = true) (hz : mN P e = some cs)
    (h : ∀ b w', w'.heap[b]? = some (.cells cs e (0, 0)) → w.heap.size = b → Evo [] w w' → WL P N ops R rest ((d, .pointer (some ⟨b, 0, none⟩)) :: σ) w') :
    WL P N ops R (⟨some d, .alloc e, T, pos, after, none⟩ :: rest) σ w := by
  obtain ⟨v, hv, rfl⟩ := Option.map_eq_some_iff.1 hz
  obtain ⟨i, hi, hz'⟩ := Option.bind_eq_some_iff.1 hv
  refine gC (w' := w.alloc (.cells v.cells e)) hd (fun ρ _ => ?_) (h _ _ (vE w _) rfl (pF w _))
  simp [execOp, Instr.alloc, zeroValue, typeInfo, hi, hz', newVar, newRow]
theorem lF {t U : TypeId} {x y : Operand} {v : Value} {b o n : Nat} {cs : Array Value} (hx : σ.ev x = some (.pointer (some ⟨b, o, none⟩))) (hy : σ.ev y = some v) (hs : fQ P t = some n) (hn : v.cells.size = n)
    (h1 : ∀ u, u ∈ v.cells.toList → u.oneCell' = true) (hb : w.heap[b]? = some (.cells cs U (0, 0))) (hle : o + n ≤ cs.size)
    (h : ∀ w', w'.heap[b]? = some (.cells (cs.toList.take o ++ v.cells.toList ++ cs.toList.drop (o + n)).toArray U (0, 0)) → Evo [b] w w' → WL P N ops R rest σ w') :
    WL P N ops R (⟨none, .store t x y, T, pos, after, none⟩ :: rest) σ w := by
  obtain ⟨i, hi, hsz⟩ := Option.map_eq_some_iff.1 hs
  obtain ⟨w', hr, hb', he⟩ := qW (P := P) b U v.cells.toList o 0 cs w hb (by simpa [hn] using hle) h1
  refine wl_skip (w' := w') (fun ρ ha => ?_) (h w' (by simpa [hn] using hb') he)
  simp [execOp, ha x _ hx, ha y _ hy, Instr.storeAt, Instr.sureAddr, storeVar, sizeOf, typeInfo, hi, hsz, hn, hr]
theorem bB {t U : TypeId} {x y : Operand} {v : Value} {b o : Nat} {cs : Array Value} (hx : σ.ev x = some (.pointer (some ⟨b, o, none⟩))) (hy : σ.ev y = some v) (h1 : v.oneCell' = true) (hs : fQ P t = some 1)
    (hb : w.heap[b]? = some (.cells cs U (0, 0))) (hle : Nat.blt o cs.size = true)
    (h : ∀ w', w'.heap[b]? = some (.cells (cs.setIfInBounds o v) U (0, 0)) → Evo [b] w w' → WL P N ops R rest σ w') :
    WL P N ops R (⟨none, .store t x y, T, pos, after, none⟩ :: rest) σ w := by
  have hc : v.cells = #[v] := by cases v <;> first | rfl | cases h1
  have hlt : o < cs.size := of_decide_eq_true (by simpa using hle)
  refine lF hx hy hs (by simp [hc]) (by simp [hc, h1]) hb (by omega) (fun w' hb' he => h w' ?_ he)
  rw [hb', hc]
  have e := set_row cs o v hlt
  simp only at e ⊢
  rw [e]
def AllOne : List Value → Prop
  | [] => True
  | v :: r => v.oneCell' = true ∧ AllOne r
theorem AllOne.mem {l : List Value} (h : AllOne l) : ∀ u, u ∈ l → u.oneCell' = true := by
  induction l with
  | nil => intro u hu; cases hu
  | cons v l ih =>
    intro u hu
    rcases List.mem_cons.1 hu with rfl | hu
    · exact h.1
    · exact ih h.2 u hu
theorem aV {t U : TypeId} {x y : Operand} {b n : Nat} {cs vs : Array Value} (hx : σ.ev x = some (.pointer (some ⟨b, 0, none⟩))) (hy : σ.ev y = some (.agg vs)) (hs : fQ P t = some n)
    (hb : w.heap[b]? = some (.cells cs U (0, 0))) (hn : vs.size = n) (hn' : cs.size = n) (h1 : AllOne vs.toList)
    (h : ∀ w', w'.heap[b]? = some (.cells vs U (0, 0)) → Evo [b] w w' → WL P N ops R rest σ w') :
    WL P N ops R (⟨none, .store t x y, T, pos, after, none⟩ :: rest) σ w := by
  refine lF hx hy hs hn (fun u hu => h1.mem u hu) hb (by omega) (fun w' hb' he => h w' ?_ he)
  rw [hb']
  simp only [List.take_zero, List.nil_append, Nat.zero_add]
  rw [List.drop_of_length_le (by simp; omega)]
  simp [Value.cells]
end
def CellsAt (w : World) (b o : Nat) (vs : List Value) : Prop := ∀ j v, vs[j]? = some v → w.cell? ⟨b, o + j, none⟩ = some v
theorem CellsAt.evo {X : List Nat} {w w' : World} {b o : Nat} {vs : List Value} (h : CellsAt w b o vs) (he : Evo X w w') (hb : b ∉ X) : CellsAt w' b o vs := fun j v hv => he.cell (h j v hv) hb
def intB (P : Program) (t : TypeId) : Option Bool := (P.underlying t).map fun | .int _ => true | _ => false
def Own (w : World) (e : TypeId) (sz : Nat) (v : Value) (n : Nat) (xs : List Value) (ob : Option Nat) : Prop :=
  xs.length = n * sz ∧ ((v = .slice none 0 0 ∧ n = 0 ∧ ob = none) ∨
    ∃ g cap cur, ob = some g ∧ v = .slice (some ⟨g, 0, none⟩) n cap ∧ w.heap[g]? = some (.cells cur e (0, 0)) ∧ n ≤ cap ∧ cap ≤ maxLen ∧ cur.size = cap * sz ∧ cur.toList.take (n * sz) = xs)
structure Src (P : Program) (w : World) (sz : Nat) (x : Value) (m : Nat) (news : List Value) : Prop where
  len : ∀ w2, (Builtin.lenOf x).run P w2 = .ok m w2
  cells : ∀ w2 : World, w2.heap = w.heap → (Builtin.firstCells sz m x).run P w2 = .ok news.toArray w2
  length : news.length = m * sz
  one : ∀ u, u ∈ news → u.oneCell' = true
theorem Src.slice {P : Program} {w : World} {sz b o m c : Nat} {news : List Value} (hl : news.length = m * sz) (hc : CellsAt w b o news) (h1 : ∀ u, u ∈ news → u.oneCell' = true) : Src P w sz (.slice (some ⟨b, o, none⟩) m c) m news :=
  ⟨fun _ => rfl, fun w2 h2 => run_firstCells_some (P := P) w2 sz m ⟨b, o, none⟩ m c news hl (fun j v hv => by
    have hadd : (⟨b, o, none⟩ : Addr).add j = ⟨b, o + j, none⟩ := by unfold Addr.add; split <;> simp_all
    rw [hadd, show w2.cell? ⟨b, o + j, none⟩ = w.cell? ⟨b, o + j, none⟩ from by simp [World.cell?, h2]]
    exact hc j v hv), hl, h1⟩
theorem HT {P : Program} {w : World} {t u ty e : TypeId} {i : TypeInfo} {z : Value} {sz bytes : Nat} (ht : P.underlying t = some (.slice e)) (hu : intB P u = some false) (hi : P.info? e = some i) (hz : i.zero = some z)
    (hsize : i.size = sz) (hby : i.bytes = bytes) (hb0 : 0 < bytes) (hzs : z.cells.size = sz) {v x : Value} {n m : Nat} {xs news : List Value} {ob : Option Nat} (hown : Own w e sz v n xs ob) (hsrc : Src P w sz x m news)
    (hbytes : (n + m) * bytes ≤ 140737488355328) :
    ∃ v' w' ob', (Builtin.append_ #[t, u] ty #[v, x]).run P w = .ok v' w' ∧ Own w' e sz v' (n + m) (xs ++ news) ob' ∧ Evo ob.toList w w' ∧ (ob' = ob ∨ ∃ g, ob' = some g ∧ w.heap.size ≤ g ∧ Evo [] w w') := by
  subst hsize hby
  obtain ⟨du, hdu, hdb⟩ := Option.map_eq_some_iff.1 hu
  have hmul : n + m ≤ (n + m) * i.bytes := Nat.le_mul_of_pos_right _ hb0
  have h63 : n + m ≤ 140737488355328 := Nat.le_trans hmul hbytes
  have hlen : (xs ++ news).length = (n + m) * i.size := by rw [List.length_append, hown.1, hsrc.length, Nat.add_mul]
  have hnz : ∀ k, du ≠ .int k := fun k hk => by subst hk; simp at hdb
  have grown : ∀ old, old < n + m → ∃ w', w' = w.drew.alloc (.cells (xs.toArray ++ news.toArray ++ Builtin.zeroCells z.cells (grownCap w (n + m) old e - (n + m))) e) ∧
      Own w' e i.size (.slice (some ⟨w.heap.size, 0, none⟩) (n + m) (grownCap w (n + m) old e)) (n + m) (xs ++ news) (some w.heap.size) ∧ Evo [] w w' := by
    intro old ho
    refine ⟨_, rfl, ⟨hlen, .inr ⟨w.heap.size, _, _, rfl, rfl, heap_alloc_new w.drew _, grownCap_ge w (n + m) old e, grownCap_le_maxLen w (n + m) old e (by unfold maxLen; omega), ?_, ?_⟩⟩, ⟨rfl, rfl, rfl, by simp, fun k hk _ => RowKit.Below.heap_alloc w.drew _ k hk⟩⟩
    · have hge := grownCap_ge w (n + m) old e
      simp only [Array.size_append, List.size_toArray, size_zeroCells, hzs, hown.1, hsrc.length, ← Nat.add_mul]
      congr 1
      omega
    · simp only [Array.toList_append, List.append_assoc]
      rw [← List.append_assoc, ← hlen]
      exact List.take_left
  rcases hown.2 with ⟨rfl, rfl, rfl⟩ | ⟨g, cap, cur, rfl, rfl, hg, hnc, hcm, hcs, htake⟩
  · have hx : xs = [] := List.eq_nil_of_length_eq_zero (by simpa using hown.1)
    subst hx
    by_cases hm : m = 0
    · subst hm
      have hn : news = [] := List.eq_nil_of_length_eq_zero (by simpa using hsrc.length)
      subst hn
      refine ⟨.slice none 0 0, w, none, ?_, ⟨by simp, .inl ⟨rfl, rfl, rfl⟩⟩, Evo.refl _ _, .inl rfl⟩
      have hc := hsrc.cells w rfl
      simp only [Builtin.append_, run_underlying ht, run_underlying hdu, sizeOf, typeInfo, hi, List.getElem?_toArray, List.getElem?_cons_zero, List.getElem?_cons_succ, Sem.run_bind, Sem.run_pure, Result.andThen_ok, run_program]
      simp [hi, hsrc.len, hc]
    · obtain ⟨w', hw', ho', he'⟩ := grown 0 (by omega)
      refine ⟨_, w', some w.heap.size, ?_, ho', he'.any _, .inr ⟨_, rfl, Nat.le_refl _, he'⟩⟩
      have hc := hsrc.cells w.drew rfl
      have hfit := growslice_fits (need := 0 + m) (old := 0) (by omega) hbytes
      simp only [Nat.zero_add] at hfit
      simp only [Builtin.append_, run_underlying ht, run_underlying hdu, sizeOf, typeInfo, hi, List.getElem?_toArray, List.getElem?_cons_zero, List.getElem?_cons_succ, Sem.run_bind, Sem.run_pure, Result.andThen_ok, run_program]
      simp [hi, hz, zeroValue, typeInfo, hsrc.len, hc, hm, show ¬ (9223372036854775807 < (m : Int)) by omega, show ¬ (281474976710656 < Builtin.nextslicecap m 0 * i.bytes) by omega, Question.forced, run_firstCells_none, newRow, grownCap, hw']
  · by_cases hroom : n + m ≤ cap
    · have hfit : n * i.size + 0 + news.length ≤ cur.size := by rw [hsrc.length, hcs, Nat.add_zero, ← Nat.add_mul]; exact Nat.mul_le_mul_right _ hroom
      obtain ⟨w', hr, hb', he'⟩ := qW (P := P) g e news (n * i.size) 0 cur w hg hfit hsrc.one
      refine ⟨.slice (some ⟨g, 0, none⟩) (n + m) cap, w', some g, ?_, ⟨hlen, .inr ⟨g, cap, _, rfl, rfl, hb', hroom, hcm, ?_, ?_⟩⟩, he', .inl rfl⟩
      · have hc := hsrc.cells w rfl
        have hadd : (⟨g, 0, none⟩ : Addr).add (n * i.size) = ⟨g, n * i.size, none⟩ := by unfold Addr.add; split <;> simp_all
        simp only [Builtin.append_, run_underlying ht, run_underlying hdu, sizeOf, typeInfo, hi, List.getElem?_toArray, List.getElem?_cons_zero, List.getElem?_cons_succ, Sem.run_bind, Sem.run_pure, Result.andThen_ok, run_program]
        simp [hi, hsrc.len, hc, hroom, hadd, hr]
      · simp only [List.size_toArray, List.length_append, List.length_take, List.length_drop, Array.length_toList]
        omega
      · simp only [Nat.add_zero] at htake ⊢
        rw [htake, ← hlen]
        exact List.take_left
    · obtain ⟨w', hw', ho', he'⟩ := grown cap (by omega)
      refine ⟨_, w', some w.heap.size, ?_, ho', he'.any _, .inr ⟨_, rfl, Nat.le_refl _, he'⟩⟩
      have hc := hsrc.cells w.drew rfl
      have hold := run_firstCells_some (P := P) w.drew i.size n ⟨g, 0, none⟩ n cap xs hown.1 (fun j v hv => by
        have hadd : (⟨g, 0, none⟩ : Addr).add j = ⟨g, j, none⟩ := by unfold Addr.add; split <;> simp_all
        rw [hadd]
        refine eS hg ?_
        rw [← htake, List.getElem?_take] at hv
        split at hv
        · simpa using hv
        · cases hv)
      have hfit := growslice_fits (need := n + m) (old := cap) (by omega) hbytes
      simp only [Builtin.append_, run_underlying ht, run_underlying hdu, sizeOf, typeInfo, hi, List.getElem?_toArray, List.getElem?_cons_zero, List.getElem?_cons_succ, Sem.run_bind, Sem.run_pure, Result.andThen_ok, run_program]
      simp [hi, hz, zeroValue, typeInfo, hsrc.len, hc, hold, hroom, show ¬ (9223372036854775807 < (n : Int) + (m : Int)) by omega, show ¬ (281474976710656 < Builtin.nextslicecap (n + m) cap * i.bytes) by omega, Question.forced, newRow, grownCap, hw']
      rw [← Array.append_assoc, show xs.toArray ++ news.toArray = (xs ++ news).toArray from by simp]
def OwnS (w : World) (e : TypeId) (sz : Nat) (a : Option Addr) (n c : Nat) (xs : List Value) (ob : Option Nat) : Prop := Own w e sz (.slice a n c) n xs ob
theorem OwnS.nil (w : World) (e : TypeId) (sz : Nat) : OwnS w e sz none 0 0 [] none := ⟨by simp, .inl ⟨rfl, rfl, rfl⟩⟩
theorem OwnS.lt {w : World} {e : TypeId} {sz : Nat} {a : Option Addr} {n c : Nat} {xs : List Value} {g : Nat} (h : OwnS w e sz a n c xs (some g)) : g < w.heap.size := by
  rcases h.2 with ⟨_, _, h⟩ | ⟨g', _, _, hg, _, hb, _⟩
  · cases h
  · cases hg; exact eM hb
theorem OwnS.evo {X : List Nat} {w w' : World} {e : TypeId} {sz : Nat} {a : Option Addr} {n c : Nat} {xs : List Value} {ob : Option Nat} (h : OwnS w e sz a n c xs ob) (he : Evo X w w') (hx : ∀ g, ob = some g → g ∉ X) : OwnS w' e sz a n c xs ob := by
  refine ⟨h.1, ?_⟩
  rcases h.2 with h1 | ⟨g, cap, cur, hg, hv, hb, r⟩
  · exact .inl h1
  · exact .inr ⟨g, cap, cur, hg, hv, he.blk hb (hx g hg), r⟩
theorem OwnS.evo0 {w w' : World} {e : TypeId} {sz : Nat} {a : Option Addr} {n c : Nat} {xs : List Value} {ob : Option Nat} (h : OwnS w e sz a n c xs ob) (he : Evo [] w w') : OwnS w' e sz a n c xs ob := h.evo he (fun _ _ h => by cases h)
theorem OwnS.length {w : World} {e : TypeId} {sz : Nat} {a : Option Addr} {n c : Nat} {xs : List Value} {ob : Option Nat} (h : OwnS w e sz a n c xs ob) : xs.length = n * sz := h.1
theorem OwnS.le {w : World} {e : TypeId} {sz : Nat} {a : Option Addr} {n c : Nat} {xs : List Value} {ob : Option Nat} (h : OwnS w e sz a n c xs ob) : n ≤ c := by
  rcases h.2 with ⟨h1, rfl, _⟩ | ⟨g, cap, cur, _, hv, _, hn, _⟩
  · omega
  · cases hv; exact hn
theorem OwnS.at {w : World} {e : TypeId} {sz : Nat} {a : Option Addr} {n c : Nat} {xs : List Value} {ob : Option Nat} (h : OwnS w e sz a n c xs ob) (h0 : 0 < n) : ∃ g cur, ob = some g ∧ a = some ⟨g, 0, none⟩ ∧ w.heap[g]? = some (.cells cur e (0, 0)) ∧ cur.size = c * sz ∧ cur.toList.take (n * sz) = xs := by
  rcases h.2 with ⟨_, rfl, _⟩ | ⟨g, cap, cur, hg, hv, hb, hn, hc, hs, ht⟩
  · omega
  · cases hv; exact ⟨g, cur, hg, rfl, hb, hs, ht⟩
theorem OwnS.cells {w : World} {e : TypeId} {sz : Nat} {a : Option Addr} {n c : Nat} {xs : List Value} {ob : Option Nat} (h : OwnS w e sz a n c xs ob) (h0 : 0 < n) : ∃ g, ob = some g ∧ a = some ⟨g, 0, none⟩ ∧ CellsAt w g 0 xs := by
  obtain ⟨g, cur, hg, ha, hb, _, ht⟩ := h.at h0
  refine ⟨g, hg, ha, fun j v hv => eS hb ?_⟩
  rw [← ht, List.getElem?_take] at hv
  split at hv
  · simpa using hv
  · cases hv
def DL (P : Program) (t u : TypeId) : Option (TypeId × Nat × Nat) :=
  match P.underlying t with
  | some (.slice e) => match P.info? e with
    | some i => match i.zero with
      | some z => if z.cells.size = i.size ∧ 0 < i.bytes ∧ intB P u = some false then some (e, i.size, i.bytes) else none
      | none => none
    | none => none
  | _ => none
section
variable {P : Program} {N : NN} {R : iA} {σ : Env} {w : World} {ops : Array Oper} {rest : List Oper} {d : Nat} {T : TypeId} {pos : String} {after : Array Edge}
theorem HJ {s x : Operand} {t u e : TypeId} {ats : Array TypeId} {sz bytes n m c : Nat} {a : Option Addr} {vx : Value} {xs news : List Value} {ob : Option Nat} (hd : Nat.blt d N.1 = true) (hs : σ.ev s = some (.slice a n c)) (hx : σ.ev x = some vx) (hats : ats = #[t, u])
    (hf : DL P t u = some (e, sz, bytes)) (hown : OwnS w e sz a n c xs ob) (hsrc : Src P w sz vx m news) (hbytes : (n + m) * bytes ≤ 140737488355328)
    (h : ∀ a' c' w' ob', OwnS w' e sz a' (n + m) c' (xs ++ news) ob' → Evo ob.toList w w' → (ob' = ob ∨ ∃ g, ob' = some g ∧ w.heap.size ≤ g ∧ Evo [] w w') → WL P N ops R rest ((d, .slice a' (n + m) c') :: σ) w') :
    WL P N ops R (⟨some d, .call ⟨.builtin .append, #[s, x], ats⟩, T, pos, after, none⟩ :: rest) σ w := by
  subst hats
  simp only [DL] at hf
  split at hf <;> try cases hf
  rename_i e' ht
  split at hf <;> try cases hf
  rename_i i hi
  split at hf <;> try cases hf
  rename_i z hz
  split at hf <;> try cases hf
  rename_i hc
  obtain ⟨v', w', ob', hr, ho, he, hob⟩ := HT (ty := T) ht hc.2.2 hi hz rfl rfl hc.2.1 hc.1 hown hsrc hbytes
  have hv : ∃ a' c', v' = .slice a' (n + m) c' := by
    rcases ho.2 with ⟨h1, h2, _⟩ | ⟨g, cap, _, _, h1, _⟩
    · exact ⟨none, 0, by rw [h1, h2]⟩
    · exact ⟨_, _, h1⟩
  obtain ⟨a', c', rfl⟩ := hv
  refine gC (w' := w') hd (fun ρ ha => ?_) (h a' c' w' ob' ho he hob)
  simp [execOp, resolve, ha s _ hs, ha x _ hx, invoke, builtin, hr]
theorem cZ {s x : Operand} {t u e : TypeId} {ats : Array TypeId} {sz bytes n m c : Nat} {a : Option Addr} {vx : Value} {xs news : List Value} {ob : Option Nat} (hd : Nat.blt d N.1 = true) (hs : σ.ev s = some (.slice a n c)) (hx : σ.ev x = some vx) (hats : ats = #[t, u])
    (hf : DL P t u = some (e, sz, bytes)) (hown : OwnS w e sz a n c xs ob) (hsrc : Src P w sz vx m news) (hbytes : (n + m) * bytes ≤ 140737488355328)
    (h : ∀ a' c' w' ob', OwnS w' e sz a' (n + m) c' (xs ++ news) ob' → Evo ob.toList w w' → (ob' = ob ∨ ∃ g, ob' = some g ∧ w.heap.size ≤ g) → WL P N ops R rest ((d, .slice a' (n + m) c') :: σ) w') :
    WL P N ops R (⟨some d, .call ⟨.builtin .append, #[s, x], ats⟩, T, pos, after, none⟩ :: rest) σ w :=
  HJ hd hs hx hats hf hown hsrc hbytes fun a' c' w' ob' h1 h2 h3 => h a' c' w' ob' h1 h2 (h3.imp id fun ⟨g, k1, k2, _⟩ => ⟨g, k1, k2⟩)
theorem UG (sz : Nat) : ∀ (vs : List Value) (k : Nat) (pre post : List Value), (∀ v, v ∈ vs → v.cells.size = sz) → pre.length = k * sz → post.length = vs.length * sz →
    Instr.fill (fun i => some (i * sz, sz)) (pre ++ post).toArray ((vs.zipIdx k).map fun p => (p.2, p.1)) = some (pre ++ vs.flatMap (fun v => v.cells.toList)).toArray := by
  intro vs
  induction vs with
  | nil => intro k pre post _ _ hpost; have : post = [] := List.eq_nil_of_length_eq_zero (by simpa using hpost); subst this; simp [Instr.fill]
  | cons v vs ih =>
    intro k pre post hsz hpre hpost
    have hv := hsz v (by simp)
    have hpl : post.length = sz + vs.length * sz := by rw [hpost, List.length_cons, Nat.add_mul]; omega
    have key : ∀ (l : List Value) (j : Nat) (p q : List Value), p.length = k * sz + j → l.length ≤ q.length →
        (l.zipIdx j).foldl (fun (cs : Array Value) x => cs.setIfInBounds (k * sz + x.2) x.1) (p ++ q).toArray = (p ++ l ++ q.drop l.length).toArray := by
      intro l
      induction l with
      | nil => intro j p q _ _; simp
      | cons c l ihl =>
        intro j p q hp hq
        cases q with
        | nil => simp at hq
        | cons q0 q =>
          have := ihl (j + 1) (p ++ [c]) q (by simp [hp]; omega) (by simpa using hq)
          simp only [List.zipIdx_cons, List.foldl_cons, List.setIfInBounds_toArray]
          rw [show (p ++ q0 :: q).set (k * sz + j) c = p ++ [c] ++ q from by rw [← hp]; simp]
          simpa using this
    have hk := key v.cells.toList 0 pre post (by simpa using hpre) (by simp [hv]; omega)
    simp only [List.zipIdx_cons, List.map_cons, Instr.fill]
    rw [if_neg (by simp [hv, hpre, hpl])]
    rw [← Array.foldl_toList, Array.toList_zipIdx, hk]
    have h2 := ih (k + 1) (pre ++ v.cells.toList) (post.drop v.cells.toList.length) (fun u hu => hsz u (List.mem_cons_of_mem _ hu)) (by simp [hpre, hv, Nat.add_mul]) (by simp [hv, hpl])
    rw [h2]
    simp
def pN (P : Program) (t : TypeId) : Option (TypeId × Nat) :=
  match P.underlying t with
  | some (.slice e) => match P.info? e with
    | some i => match i.zero with
      | some z => if z.cells.size = i.size then some (e, i.size) else none
      | none => none
    | none => none
  | _ => none
theorem bM {t e : TypeId} {sz len : Nat} {parts : Array (Nat × Operand)} {vs : List Value} (hd : Nat.blt d N.1 = true) (hf : pN P t = some (e, sz)) (hp : parts.toList.map (fun p => (p.1, σ.ev p.2)) = vs.zipIdx.map (fun q => (q.2, some q.1)))
    (hlen : vs.length = len) (hsz : vs.all (fun v => Nat.beq v.cells.size sz) = true) (hle : Nat.ble (len * sz + len) 16777216 = true)
    (h : ∀ b w', OwnS w' e sz (some ⟨b, 0, none⟩) len len (vs.flatMap fun v => v.cells.toList) (some b) → w.heap.size = b → Evo [] w w' → WL P N ops R rest ((d, .slice (some ⟨b, 0, none⟩) len len) :: σ) w') :
    WL P N ops R (⟨some d, .buildSlice t len parts, T, pos, after, none⟩ :: rest) σ w := by
  simp only [pN] at hf
  split at hf <;> try cases hf
  rename_i e' ht
  split at hf <;> try cases hf
  rename_i i hi
  split at hf <;> try cases hf
  rename_i z hz
  split at hf <;> try cases hf
  rename_i hc
  have hvs : ∀ v, v ∈ vs → v.cells.size = i.size := fun v hv => Nat.eq_of_beq_eq_true (List.all_eq_true.1 hsz v hv)
  have hfl : (vs.flatMap fun v => v.cells.toList).length = len * i.size := by
    rw [← hlen]; clear hp hlen hsz hle h
    induction vs with
    | nil => simp
    | cons v vs ih => simp [ih (fun u hu => hvs u (List.mem_cons_of_mem _ hu)), hvs v (by simp), Nat.add_mul]; omega
  have hle' : len * i.size + len ≤ 16777216 := Nat.le_of_ble_eq_true hle
  refine gC (w' := w.alloc (.cells (vs.flatMap fun v => v.cells.toList).toArray e)) hd (fun ρ ha => ?_) (h w.heap.size _ ⟨hfl, .inr ⟨w.heap.size, len, _, rfl, rfl, heap_alloc_new w _, Nat.le_refl _, ?_, by simp [hfl], ?_⟩⟩ rfl (pF w _))
  · have hparts : (parts.map fun p => (p.1, ρ p.2)).toList = (vs.zipIdx 0).map fun p => (p.2, p.1) := by
      rw [Array.toList_map]
      clear h hlen hsz hvs hfl hle hle'
      revert hp
      generalize parts.toList = l
      generalize vs.zipIdx 0 = q
      intro hp
      induction l generalizing q with
      | nil => cases q with | nil => rfl | cons _ _ => simp at hp
      | cons p l ih =>
        cases q with
        | nil => simp at hp
        | cons x q =>
          simp only [List.map_cons, List.cons.injEq, Prod.mk.injEq] at hp ⊢
          exact ⟨⟨hp.1.1, ha _ _ hp.1.2⟩, ih q hp.2⟩
    have hfill := UG i.size vs 0 [] (List.map (fun j => z.cells[j % z.cells.size]!) (List.range (len * i.size))) hvs (by simp) (by simp [hlen])
    simp only [List.nil_append] at hfill
    have harr : ((Array.range (len * i.size)).map fun j => z.cells[j % z.cells.size]!) = (List.map (fun j => z.cells[j % z.cells.size]!) (List.range (len * i.size))).toArray := by
      apply Array.toList_inj.1; simp
    rw [← harr, ← hparts] at hfill
    simp only [execOp, Instr.buildSlice, run_underlying ht, sizeOf, typeInfo, hi, Sem.run_bind, Sem.run_pure, Result.andThen_ok, run_program, zeroValue]
    rw [Array.toList_map] at hfill
    by_cases h0 : len * i.size = 0
    · have hr0 : Array.range 0 = #[] := rfl
      simp only [h0, hr0, Array.map_empty] at hfill
      simp only [hi, h0, hr0, if_true, Sem.run_bind, Sem.run_pure, Result.andThen_ok, run_program, Array.map_empty, Array.toList_map]
      simp [hfill, newRow]
    · have hzz : (zeroValue e).run P w = .ok z w := by simp [zeroValue, typeInfo, hi, hz]
      simp [hi, hz, h0, newRow, show ¬ (16777216 < len * i.size) by omega, hfill]
  · unfold maxLen; omega
  · rw [← hfl]; exact List.take_length
end
section
variable {P : Program} {N : NN} {R : iA} {σ : Env} {w : World} {ops : Array Oper} {rest : List Oper} {d : Nat} {op : Op} {T : TypeId} {pos : String} {after : Array Edge}
def QL (P : Program) (N : NN) (ops : Array Oper) (w : World) (R : iA) (l : List Oper) (σ : Env) : Prop :=
  ∀ a, Fits N σ a → wpQuiet P ops (fun w' => ∃ n, w' = w.drewN n) (fun a' => ∀ w', (∃ n, w' = w.drewN n) → toQ R .normal a' w') l a
theorem BH (w : World) (n : Nat) : Evo [] w (w.drewN n) := ⟨rfl, rfl, rfl, Nat.le_refl _, fun _ _ _ => rfl⟩
theorem eH {id : Nat} {l : List Oper} (hm : P.follows .mixedOrders = true) (hB : Region.lexB .any l.toArray = true) (h : QL P N l.toArray w R l σ) : CW P N (.region id l.toArray true) R σ w :=
  fun a ha => wp_region_quiet_lit hm hB (h a ha)
theorem eL (h : ∀ w', Evo [] w w' → R .normal N σ w') : QL P N ops w R [] σ := fun _ ha => wpQuiet_nil fun w' ⟨n, hn⟩ => ⟨N, σ, ha, h w' (hn ▸ BH w n)⟩
theorem ql_val {r : Value} (hd : Nat.blt d N.1 = true) (hx : ∀ w', Evo [] w w' → Ex P σ ⟨some d, op, T, pos, after, none⟩ w' r w') (h : QL P N ops w R rest ((d, r) :: σ)) :
    QL P N ops w R (⟨some d, op, T, pos, after, none⟩ :: rest) σ := fun a ha => by
  refine wpQuiet_step fun K hK => ?_
  rw [if_pos (by simp [Region.wanted])]
  refine ⟨r, ?_, hK _ (h _ (ha.put (of_decide_eq_true (by simpa using hd)) r))⟩
  rintro w' ⟨n, rfl⟩
  unfold Oper.quietAt
  rw [hx _ (BH w n) a.eval ha.agrees]
  exact ⟨rfl, rfl⟩
theorem bD {r : Value} (hx : ∀ w', Evo [] w w' → Ex P σ ⟨some d, op, T, pos, after, none⟩ w' r w') (h : QL P N ops w R rest ((d, r) :: σ)) (hd : Nat.blt d N.1 = true := by rfl) : QL P N ops w R (⟨some d, op, T, pos, after, none⟩ :: rest) σ := ql_val hd hx h
theorem ql_go {dst : Option Nat} {j : Nat} {pol : Bool} {oj : Oper} {t : Nat} (hj : ops[j]? = some oj) (ht : oj.dst = some t) (hv : σ.get t = some (.bool pol)) (hN : Nat.blt t N.1 = true)
    (h : QL P N ops w R (⟨dst, op, T, pos, after, none⟩ :: rest) σ) : QL P N ops w R (⟨dst, op, T, pos, after, some (j, pol)⟩ :: rest) σ := fun a ha => by
  have h1 := h a ha
  have hg : Region.wanted (⟨dst, op, T, pos, after, some (j, pol)⟩ : Oper) (yielded ops a.tmps) = true := by
    have hs : t < a.tmps.size := by rw [ha.1]; exact of_decide_eq_true (by simpa using hN)
    have := ha.2.2 t _ hv
    simp only [Array.getD_eq_getD_getElem?, Array.getElem?_eq_getElem hs, Option.getD_some] at this
    simp [Region.wanted, yielded, hj, ht, Array.getElem?_eq_getElem hs, this]
  unfold wpQuiet at h1 ⊢
  rw [if_pos hg]
  rw [if_pos (by simp [Region.wanted])] at h1
  exact h1
theorem qlg {dst : Option Nat} {j : Nat} {pol : Bool} {oj : Oper} {t : Nat} (h : QL P N ops w R (⟨dst, op, T, pos, after, none⟩ :: rest) σ) (hj : ops[j]? = some oj := by rfl) (ht : oj.dst = some t := by rfl) (hv : σ.get t = some (.bool pol) := by rfl) (hN : Nat.blt t N.1 = true := by rfl) : QL P N ops w R (⟨dst, op, T, pos, after, some (j, pol)⟩ :: rest) σ := ql_go hj ht hv hN h
theorem ql_no {j : Nat} {pol b : Bool} {oj : Oper} {t : Nat} (hj : ops[j]? = some oj) (ht : oj.dst = some t) (hv : σ.get t = some (.bool b)) (hb : b = !pol) (hN : Nat.blt t N.1 = true) (hd : Nat.blt d N.1 = true)
    (h : QL P N ops w R rest ((d, undef) :: σ)) : QL P N ops w R (⟨some d, op, T, pos, after, some (j, pol)⟩ :: rest) σ := fun a ha => by
  have hg : Region.wanted (⟨some d, op, T, pos, after, some (j, pol)⟩ : Oper) (yielded ops a.tmps) = false := by
    have hs : t < a.tmps.size := by rw [ha.1]; exact of_decide_eq_true (by simpa using hN)
    have := ha.2.2 t _ hv
    simp only [Array.getD_eq_getD_getElem?, Array.getElem?_eq_getElem hs, Option.getD_some] at this
    subst hb
    cases pol <;> simp [Region.wanted, yielded, hj, ht, Array.getElem?_eq_getElem hs, this]
  unfold wpQuiet
  rw [if_neg (by rw [hg]; simp)]
  exact h _ (ha.put (of_decide_eq_true (by simpa using hd)) _)
theorem qln {j : Nat} {pol b : Bool} {oj : Oper} {t : Nat} (h : QL P N ops w R rest ((d, undef) :: σ)) (hj : ops[j]? = some oj := by rfl) (ht : oj.dst = some t := by rfl) (hv : σ.get t = some (.bool b) := by rfl) (hb : b = !pol := by rfl) (hN : Nat.blt t N.1 = true := by rfl) (hd : Nat.blt d N.1 = true := by rfl) : QL P N ops w R (⟨some d, op, T, pos, after, some (j, pol)⟩ :: rest) σ := ql_no hj ht hv hb hN hd h
theorem Fits.split {t : Nat} {b c : Bool} {a : Act} (hv : σ.get t = some (.bool b)) (he : b = c) (ha : Fits N σ a) : Fits N ((t, .bool c) :: σ) a :=
  ⟨ha.1, ha.2.1, fun u v hu => by
    simp only [Env.get] at hu
    cases hb : Nat.beq t u with
    | true =>
      rw [hb] at hu
      have : t = u := Nat.eq_of_beq_eq_true hb
      subst this
      simp only [cond_true, Option.some.injEq] at hu
      rw [← hu, ha.2.2 t _ hv, he]
    | false => rw [hb] at hu; exact ha.2.2 u v hu⟩
theorem jT {l : List Oper} {t : Nat} {p : Prop} [Decidable p] (hv : σ.get t = some (.bool (decide p))) (ht : p → QL P N ops w R l ((t, .bool true) :: σ)) (hf : ¬ p → QL P N ops w R l ((t, .bool false) :: σ)) : QL P N ops w R l σ := by
  intro a ha
  by_cases h : p
  · exact ht h a (ha.split hv (decide_eq_true h))
  · exact hf h a (ha.split hv (decide_eq_false h))
end
abbrev Rel (α : Type) := List Nat → World → List Value → α → Prop
def Rel.Pers {α : Type} (R : Rel α) : Prop := ∀ X w w' vs d, Evo X w w' → R X w vs d → R X w' vs d
def Rel.Fresh {α : Type} (R : Rel α) : Prop := ∀ X Y w vs d, (∀ y, y ∈ Y → y ∈ X ∨ w.heap.size ≤ y) → R X w vs d → R Y w vs d
def RSl {α : Type} (sz : Nat) (R : Rel α) (X : List Nat) (w : World) (v : Value) (ds : List α) : Prop :=
  ∃ a c, v = .slice a ds.length c ∧ ds.length ≤ c ∧ ∀ k (hk : k < ds.length), ∃ b o vs, a = some ⟨b, o, none⟩ ∧ b ∉ X ∧ vs.length = sz ∧ CellsAt w b (o + k * sz) vs ∧ R X w vs ds[k]
theorem RSl.evo {α : Type} {sz : Nat} {R : Rel α} (hR : R.Pers) {X : List Nat} {w w' : World} {v : Value} {ds : List α} (he : Evo X w w') (h : RSl sz R X w v ds) : RSl sz R X w' v ds := by
  obtain ⟨a, c, hv, hc, h⟩ := h
  refine ⟨a, c, hv, hc, fun k hk => ?_⟩
  obtain ⟨b, o, vs, ha, hb, hl, hcs, hr⟩ := h k hk
  exact ⟨b, o, vs, ha, hb, hl, hcs.evo he hb, hR _ _ _ _ _ he hr⟩
def RStr : Rel ByteArray := fun _ _ vs s => vs = [.string s]
theorem RStr.pers : RStr.Pers := fun _ _ _ _ _ _ h => h
def Apart (o p : Option Nat) : Prop := ∀ g, o = some g → p = some g → False
def Ge (w : World) (o : Option Nat) : Prop := ∀ g, o = some g → w.heap.size ≤ g
def Lt (w : World) (o : Option Nat) : Prop := ∀ g, o = some g → g < w.heap.size
theorem Apart.symm {o p : Option Nat} (h : Apart o p) : Apart p o := fun g h1 h2 => h g h2 h1
theorem Lt.blk {w : World} {b : Nat} {o : Obj} (h : w.heap[b]? = some o) : Lt w (some b) := fun g hg => by cases hg; exact eM h
theorem Lt.own {w : World} {e : TypeId} {sz : Nat} {a : Option Addr} {n c : Nat} {xs : List Value} {ob : Option Nat} (h : OwnS w e sz a n c xs ob) : Lt w ob := fun g hg => by subst hg; exact h.lt
theorem Apart.new {w : World} {o : Option Nat} {b : Nat} (h : Lt w o) (hs : w.heap.size = b) : Apart o (some b) := fun g h1 h2 => by have h3 := Option.some.inj h2; have := h g h1; omega
theorem Apart.fresh {w : World} {o p : Option Nat} (h : Lt w o) (hs : Ge w p) : Apart o p := fun g h1 h2 => by have := h g h1; have := hs g h2; omega
theorem Apart.nil (o : Option Nat) : Apart o Option.none := fun _ _ h => by cases h
theorem Apart.app {w : World} {o ob ob' : Option Nat} (h : Apart o ob) (hl : Lt w o) (hob : ob' = ob ∨ ∃ g, ob' = some g ∧ w.heap.size ≤ g) : Apart o ob' := fun g h1 h2 => by
  rcases hob with rfl | ⟨g', rfl, hg⟩
  · exact h g h1 h2
  · cases h2; have := hl g h1; omega
theorem Apart.nmem {b : Nat} {ob : Option Nat} (h : Apart (some b) ob) : b ∉ ob.toList := fun hm => by
  cases ob with
  | none => cases hm
  | some g => exact h g (by simp at hm; rw [hm]) rfl
theorem Apart.nmem1 {b c : Nat} (h : Apart (some b) (some c)) : b ∉ [c] := h.nmem
theorem Apart.own {o ob : Option Nat} (h : Apart o ob) : ∀ g, o = some g → g ∉ ob.toList := fun g hg => by subst hg; exact h.nmem
theorem Apart.own1 {o : Option Nat} {c : Nat} (h : Apart o (some c)) : ∀ g, o = some g → g ∉ [c] := fun g hg => by subst hg; exact h.nmem
theorem Ge.nil (w : World) : Ge w none := fun g h => by cases h
theorem Ge.new {X : List Nat} {a w : World} {b : Nat} (h : Evo X a w) (hs : w.heap.size = b) : Ge a (some b) := fun g hg => by cases hg; have := h.size; omega
theorem Ge.fresh {X : List Nat} {a w : World} {o : Option Nat} (h : Evo X a w) (hs : Ge w o) : Ge a o := fun g hg => by have := h.size; have := hs g hg; omega
theorem Ge.app {X : List Nat} {a w : World} {ob ob' : Option Nat} (h : Ge a ob) (he : Evo X a w) (hob : ob' = ob ∨ ∃ g, ob' = some g ∧ w.heap.size ≤ g) : Ge a ob' := fun g h2 => by
  rcases hob with rfl | ⟨g', rfl, hg⟩
  · exact h g h2
  · cases h2; have := he.size; omega
theorem Ge.mem {X : List Nat} {a : World} {ob : Option Nat} (h : Ge a ob) : ∀ y, y ∈ ob.toList → y ∈ X ∨ a.heap.size ≤ y := fun y hy => by
  cases ob with
  | none => cases hy
  | some g => simp at hy; subst hy; exact .inr (h _ rfl)
theorem Ge.mem1 {X : List Nat} {a : World} {b : Nat} (h : Ge a (some b)) : ∀ y, y ∈ [b] → y ∈ X ∨ a.heap.size ≤ y := h.mem
theorem Src.ofOwn {P : Program} {w : World} {e : TypeId} {sz : Nat} {a : Option Addr} {n c : Nat} {xs : List Value} {ob : Option Nat} (h : OwnS w e sz a n c xs ob) (h1 : AllOne xs) : Src P w sz (.slice a n c) n xs := by
  have h1' := h1.mem
  rcases Nat.eq_zero_or_pos n with h0 | h0
  · subst h0
    have hx : xs = [] := List.eq_nil_of_length_eq_zero (by simpa using h.1)
    subst hx
    refine ⟨fun _ => rfl, fun w2 _ => ?_, by simp, h1'⟩
    cases a with
    | none => rfl
    | some a => simp [Builtin.firstCells, loadCells, loadCellsFrom]
  · obtain ⟨g, _, rfl, hc⟩ := h.cells h0
    exact Src.slice h.1 hc h1'
theorem RSl.one {α : Type} {sz : Nat} {R : Rel α} {X : List Nat} {w : World} {v : Value} {ds : List α} (h : RSl sz R X w v ds) : v.oneCell' = true := by
  obtain ⟨_, _, rfl, _⟩ := h; rfl
theorem RSl.cell {α : Type} {sz : Nat} {R : Rel α} {X : List Nat} {w : World} {v : Value} {ds : List α} (h : RSl sz R X w v ds) : v.cells = #[v] := by
  obtain ⟨_, _, rfl, _⟩ := h; rfl
theorem RSl.src {α : Type} {P : Program} {sz : Nat} {R : Rel α} {X : List Nat} {w w' : World} {v : Value} {ds : List α} (h : RSl sz R X w v ds) (he : Evo X w w') (h1 : ∀ X w vs d, R X w vs d → ∀ u, u ∈ vs → u.oneCell' = true) :
    ∃ rows : List (List Value), rows.length = ds.length ∧ (∀ k (hk : k < ds.length) (hk' : k < rows.length), rows[k].length = sz ∧ R X w rows[k] ds[k]) ∧ Src P w' sz v ds.length rows.flatten := by
  obtain ⟨a, c, rfl, hc, h⟩ := h
  rcases Nat.eq_zero_or_pos ds.length with h0 | h0
  · refine ⟨[], by simp [h0], fun k hk => by omega, ?_⟩
    refine ⟨fun _ => rfl, fun w2 _ => ?_, by simp [h0], fun u hu => by simp at hu⟩
    rw [h0]
    cases a with
    | none => rfl
    | some a => simp [Builtin.firstCells, loadCells, loadCellsFrom]
  · obtain ⟨b, o, _, ha, hbX, _⟩ := h 0 h0
    subst ha
    have hex : ∀ n, n ≤ ds.length → ∃ rows : List (List Value), rows.length = n ∧ (∀ k (hk : k < ds.length) (hk' : k < rows.length), rows[k].length = sz ∧ CellsAt w b (o + k * sz) rows[k] ∧ R X w rows[k] ds[k]) := by
      intro n
      induction n with
      | zero => exact fun _ => ⟨[], rfl, fun k _ hk' => by simp at hk'⟩
      | succ n ih =>
        intro hn
        obtain ⟨rows, hl, hr⟩ := ih (by omega)
        obtain ⟨b', o', vs, hb, _, hlen, hcs, hR⟩ := h n (by omega)
        cases hb
        refine ⟨rows ++ [vs], by simp [hl], fun k hk hk' => ?_⟩
        by_cases hkn : k < n
        · rw [List.getElem_append_left (by omega)]
          exact hr k hk (by omega)
        · obtain rfl : k = n := by simp [hl] at hk'; omega
          rw [List.getElem_append_right (by omega)]
          simp only [hl, Nat.sub_self, List.getElem_cons_zero]
          exact ⟨hlen, hcs, hR⟩
    obtain ⟨rows, hl, hr⟩ := hex ds.length (Nat.le_refl _)
    refine ⟨rows, hl, fun k hk hk' => ⟨(hr k hk hk').1, (hr k hk hk').2.2⟩, ?_⟩
    have hcells : ∀ (rs : List (List Value)) (k : Nat), (∀ j (hj : j < rs.length), rs[j].length = sz ∧ CellsAt w b (o + (k + j) * sz) rs[j]) → CellsAt w b (o + k * sz) rs.flatten := by
      intro rs
      induction rs with
      | nil => intro k _ j v hv; simp at hv
      | cons r rs ih =>
        intro k hk j v hv
        simp only [List.flatten_cons, List.getElem?_append] at hv
        have h0 := hk 0 (by simp)
        split at hv
        · have := h0.2 j v (by simpa using hv)
          simpa using this
        · have hrs := ih (k + 1) (fun j hj => by have := hk (j + 1) (by simpa using hj); simp only [List.getElem_cons_succ] at this; rw [show k + 1 + j = k + (j + 1) by omega]; exact this) (j - r.length) v hv
          have hrl : r.length = sz := h0.1
          rw [show o + k * sz + j = o + (k + 1) * sz + (j - r.length) by rw [Nat.add_mul]; omega]
          exact hrs
    have hlen : ∀ (rs : List (List Value)), (∀ r, r ∈ rs → r.length = sz) → rs.flatten.length = rs.length * sz := by
      intro rs
      induction rs with
      | nil => intro _; simp
      | cons r rs ih => intro hk; simp [ih (fun r hr => hk r (List.mem_cons_of_mem _ hr)), hk r (by simp), Nat.add_mul]; omega
    have hall : ∀ r, r ∈ rows → r.length = sz ∧ ∀ u, u ∈ r → u.oneCell' = true := fun r hr' => by
      obtain ⟨k, hk, rfl⟩ := List.getElem_of_mem hr'
      have := hr k (by omega) hk
      exact ⟨this.1, h1 _ _ _ _ this.2.2⟩
    refine Src.slice (by rw [hlen rows (fun r h => (hall r h).1), hl]) (CellsAt.evo (w := w) (X := X) ?_ he hbX) (fun u hu => by obtain ⟨r, hr', hu'⟩ := List.mem_flatten.1 hu; exact (hall r hr').2 u hu')
    have := hcells rows 0 (fun j hj => ⟨(hr j (by omega) hj).1, by simpa using (hr j (by omega) hj).2.1⟩)
    simpa using this
theorem RSl.fresh {α : Type} {sz : Nat} {R : Rel α} (hsz : 0 < sz) (hR : R.Fresh) {X Y : List Nat} {w : World} {v : Value} {ds : List α} (hy : ∀ y, y ∈ Y → y ∈ X ∨ w.heap.size ≤ y) (h : RSl sz R X w v ds) : RSl sz R Y w v ds := by
  obtain ⟨a, c, hv, hc, h⟩ := h
  refine ⟨a, c, hv, hc, fun k hk => ?_⟩
  obtain ⟨b, o, vs, ha, hb, hl, hcs, hr⟩ := h k hk
  refine ⟨b, o, vs, ha, fun hbY => ?_, hl, hcs, hR _ _ _ _ _ hy hr⟩
  rcases hy b hbY with h1 | h1
  · exact hb h1
  · cases vs with
    | nil => simp at hl; omega
    | cons v0 vs =>
      have := World.block_lt_of_cell? w _ (hcs 0 v0 (by simp))
      simp only at this
      omega
def RowsOk {α : Type} (sz : Nat) (R : Rel α) (X : List Nat) (w : World) (rows : List (List Value)) (ds : List α) : Prop :=
  rows.length = ds.length ∧ ∀ k (h : k < ds.length) (h' : k < rows.length), rows[k].length = sz ∧ R X w rows[k] ds[k]
theorem RowsOk.evo {α : Type} {sz : Nat} {R : Rel α} (hR : R.Pers) {X : List Nat} {w w' : World} {rows : List (List Value)} {ds : List α} (h : RowsOk sz R X w rows ds) (he : Evo X w w') : RowsOk sz R X w' rows ds :=
  ⟨h.1, fun k hk hk' => ⟨(h.2 k hk hk').1, hR _ _ _ _ _ he (h.2 k hk hk').2⟩⟩
theorem RowsOk.fresh {α : Type} {sz : Nat} {R : Rel α} (hR : R.Fresh) {X Y : List Nat} {w : World} {rows : List (List Value)} {ds : List α} (hy : ∀ y, y ∈ Y → y ∈ X ∨ w.heap.size ≤ y) (h : RowsOk sz R X w rows ds) : RowsOk sz R Y w rows ds :=
  ⟨h.1, fun k hk hk' => ⟨(h.2 k hk hk').1, hR _ _ _ _ _ hy (h.2 k hk hk').2⟩⟩
theorem RowsOk.snoc {α : Type} {sz : Nat} {R : Rel α} {X : List Nat} {w : World} {rows : List (List Value)} {ds : List α} (h : RowsOk sz R X w rows ds) {r : List Value} {d : α} (hl : r.length = sz) (hr : R X w r d) : RowsOk sz R X w (rows ++ [r]) (ds ++ [d]) := by
  refine ⟨by simp [h.1], fun k hk hk' => ?_⟩
  by_cases e : k < rows.length
  · rw [List.getElem_append_left e, List.getElem_append_left (by rw [← h.1]; exact e)]; exact h.2 k _ _
  · have : k = rows.length := by simp at hk'; omega
    subst this
    simp [h.1, hl, hr]
theorem RowsOk.nil {α : Type} (sz : Nat) (R : Rel α) (X : List Nat) (w : World) : RowsOk sz R X w [] [] := ⟨rfl, fun k hk => by simp at hk⟩
theorem RowsOk.flen {α : Type} {sz : Nat} {R : Rel α} {X : List Nat} {w : World} {rows : List (List Value)} {ds : List α} (h : RowsOk sz R X w rows ds) : ∀ r, r ∈ rows → r.length = sz := fun r hr => by
  obtain ⟨k, hk, rfl⟩ := List.getElem_of_mem hr
  exact (h.2 k (by rw [← h.1]; exact hk) hk).1
theorem vN {sz : Nat} : ∀ {rows : List (List Value)} (_ : ∀ r, r ∈ rows → r.length = sz) {k j : Nat} (hk : k < rows.length) (_ : j < sz), rows.flatten[k * sz + j]? = rows[k][j]? := by
  intro rows
  induction rows with
  | nil => intro _ k j hk; simp at hk
  | cons r rows ih =>
    intro h k j hk hj
    have hr := h r (by simp)
    cases k with
    | zero => simp [List.getElem?_append, hr, hj]
    | succ k =>
      have := ih (fun r hr => h r (List.mem_cons_of_mem _ hr)) (k := k) (j := j) (by simpa using hk) hj
      simp only [List.flatten_cons, List.getElem?_append, hr, List.getElem_cons_succ]
      rw [if_neg (by rw [Nat.add_mul]; omega), show (k + 1) * sz + j - sz = k * sz + j by rw [Nat.add_mul]; omega, this]
theorem vM {sz : Nat} : ∀ {rows : List (List Value)} (_ : ∀ r, r ∈ rows → r.length = sz), rows.flatten.length = rows.length * sz := by
  intro rows
  induction rows with
  | nil => intro _; simp
  | cons r rows ih => intro h; simp [ih (fun r hr => h r (List.mem_cons_of_mem _ hr)), h r (by simp), Nat.add_mul]; omega
theorem OwnS.set {w w' : World} {e : TypeId} {sz : Nat} {a : Option Addr} {n c : Nat} {xs : List Value} {g : Nat} {cur : Array Value} {U : TypeId} {i : Nat} {v : Value} (h : OwnS w e sz a n c xs (some g)) (hb : w.heap[g]? = some (.cells cur U (0, 0))) (hb' : w'.heap[g]? = some (.cells (cur.setIfInBounds i v) U (0, 0))) : OwnS w' e sz a n c (xs.set i v) (some g) := by
  refine ⟨by simp [h.1], ?_⟩
  rcases h.2 with ⟨_, _, h2⟩ | ⟨g', cap, cur', hg, hv, hbb, hn, hc, hs, ht⟩
  · cases h2
  · cases hg
    rw [hb] at hbb
    cases hbb
    refine .inr ⟨g, cap, _, rfl, hv, hb', hn, hc, by simp [hs], ?_⟩
    rw [← ht]
    simp [List.take_set]
theorem OwnS.set' {w w' : World} {e : TypeId} {sz : Nat} {a : Option Addr} {n c : Nat} {xs : List Value} {ob : Option Nat} {g : Nat} {cur : Array Value} {U : TypeId} {i : Nat} {v : Value} (h : OwnS w e sz a n c xs ob) (hg : ob = some g) (hb : w.heap[g]? = some (.cells cur U (0, 0))) (hb' : w'.heap[g]? = some (.cells (cur.setIfInBounds i v) U (0, 0))) : OwnS w' e sz a n c (xs.set i v) ob := by
  subst hg; exact h.set hb hb'
theorem jQ {w w' : World} {ob : Option Nat} {g : Nat} (hg : ob = some g) (h : Evo [g] w w') : Evo ob.toList w w' := by subst hg; exact h
theorem OwnS.inb {w : World} {e : TypeId} {sz : Nat} {a : Option Addr} {n c k j o : Nat} {xs : List Value} {ob : Option Nat} {cur : Array Value} (h : OwnS w e sz a n c xs ob) (hs : cur.size = c * sz) (hk : k < n) (hj : j < sz) (ho : o = k * sz + j) : o < cur.size := by
  have h1 := h.le
  have h2 : (k + 1) * sz ≤ c * sz := Nat.mul_le_mul_right _ (by omega)
  rw [hs, ho]
  rw [Nat.add_mul] at h2
  omega
theorem RSl.ofOwn {α : Type} {sz : Nat} {R : Rel α} {X : List Nat} {w : World} {e : TypeId} {a : Option Addr} {n c : Nat} {rows : List (List Value)} {ds : List α} {ob : Option Nat} (h : OwnS w e sz a n c rows.flatten ob) (hr : RowsOk sz R X w rows ds) (hn : ds.length = n) (hx : ∀ g, ob = some g → g ∉ X) :
    RSl sz R X w (.slice a n c) ds := by
  subst hn
  refine ⟨a, c, rfl, h.le, fun k hk => ?_⟩
  obtain ⟨g, hg, ha, hcs⟩ := h.cells (by omega)
  have hk' : k < rows.length := by rw [hr.1]; exact hk
  obtain ⟨h1, h2⟩ := hr.2 k hk hk'
  refine ⟨g, 0, rows[k], ha, hx g hg, h1, fun j v hv => ?_, h2⟩
  have hj : j < sz := by rw [← h1]; exact (List.getElem?_eq_some_iff.1 hv).1
  have := hcs (k * sz + j) v (by rw [vN hr.flen hk' hj]; exact hv)
  rw [show 0 + k * sz + j = 0 + (k * sz + j) by omega]
  exact this
theorem RSl.rows {α : Type} {P : Program} {sz : Nat} {R : Rel α} {X : List Nat} {w w' : World} {v : Value} {ds : List α} (h : RSl sz R X w v ds) (he : Evo X w w') (h1 : ∀ X w vs d, R X w vs d → ∀ u, u ∈ vs → u.oneCell' = true) :
    ∃ rows : List (List Value), RowsOk sz R X w rows ds ∧ Src P w' sz v ds.length rows.flatten := by
  obtain ⟨rows, hl, hr, hs⟩ := h.src (P := P) he h1
  exact ⟨rows, ⟨hl, fun k hk hk' => hr k hk hk'⟩, hs⟩
section
variable {P : Program} {N : NN} {R : iA} {σ : Env} {w : World} {ops : Array Oper} {rest : List Oper} {dst : Option Nat} {d : Nat} {op : Op} {T : TypeId} {pos : String} {after : Array Edge} {g : Option (Nat × Bool)}
theorem fA {x i : Operand} {t : TypeId} {k : IntKind} {z : Int} {n sz b o len c : Nat} (hx : σ.ev x = some (.slice (some ⟨b, o, none⟩) len c)) (hi : σ.ev i = some (.int k z)) (hz : z = n) (he : pG P t = some sz) (hlt : n < len) :
    Ex P σ ⟨dst, .indexAddr t x i, T, pos, after, g⟩ w (.pointer (some ⟨b, o + n * sz, none⟩)) w := cG hx (by rw [hi, hz]) he hlt
theorem qX {t : TypeId} (a b : Bool) (w : World) (ht : P.underlying t = some .bool) : (Op.equal t (.bool a) (.bool b)).run P w = .ok (a == b) w := run_equalIn_bool w 9999 t a b ht
theorem yB {x y : Operand} {t t' : TypeId} {a b : Bool} (hx : σ.ev x = some (.bool a)) (hy : σ.ev y = some (.bool b)) (ht : P.underlying t = some .bool) : Ex P σ ⟨dst, .binOp .eql t x y t', T, pos, after, g⟩ w (.bool (a == b)) w := fun ρ h => by
  have := qX (P := P) a b w ht
  simp [execOp, h x _ hx, h y _ hy, eqGuard, Go.binOp, this]
theorem uD {x y : Operand} {t t' : TypeId} {a b : Bool} (hx : σ.ev x = some (.bool a)) (hy : σ.ev y = some (.bool b)) (ht : P.underlying t = some .bool) : Ex P σ ⟨dst, .binOp .neq t x y t', T, pos, after, g⟩ w (.bool (!(a == b))) w := fun ρ h => by
  have := qX (P := P) a b w ht
  simp [execOp, h x _ hx, h y _ hy, eqGuard, Go.binOp, this]
theorem tR {j : Nat} {pol : Bool} {oj : Oper} {t : Nat} {a : Act} (hj : ops[j]? = some oj) (ht : oj.dst = some t) (hv : σ.get t = some undef) (ha : Fits N σ a) (hN : Nat.blt t N.1 = true) :
    Region.wanted (⟨dst, op, T, pos, after, some (j, pol)⟩ : Oper) (yielded ops a.tmps) = false := by
  have hs : t < a.tmps.size := by rw [ha.1]; exact of_decide_eq_true (by simpa using hN)
  have := ha.2.2 t _ hv
  simp only [Array.getD_eq_getD_getElem?, Array.getElem?_eq_getElem hs, Option.getD_some] at this
  simp [Region.wanted, yielded, hj, ht, Array.getElem?_eq_getElem hs, this, undef]
theorem wl_nou {j : Nat} {pol : Bool} {oj : Oper} {t : Nat} (hj : ops[j]? = some oj) (ht : oj.dst = some t) (hv : σ.get t = some undef) (hN : Nat.blt t N.1 = true) (hd : Nat.blt d N.1 = true)
    (h : WL P N ops R rest ((d, undef) :: σ) w) : WL P N ops R (⟨some d, op, T, pos, after, some (j, pol)⟩ :: rest) σ w := fun a ha => by
  unfold wpList
  rw [if_neg (by rw [tR hj ht hv ha hN]; simp)]
  exact h _ (ha.put (of_decide_eq_true (by simpa using hd)) _)
theorem eV {j : Nat} {pol : Bool} {oj : Oper} {t : Nat} (hj : ops[j]? = some oj) (ht : oj.dst = some t) (hv : σ.get t = some undef) (hN : Nat.blt t N.1 = true) (hd : Nat.blt d N.1 = true)
    (h : QL P N ops w R rest ((d, undef) :: σ)) : QL P N ops w R (⟨some d, op, T, pos, after, some (j, pol)⟩ :: rest) σ := fun a ha => by
  unfold wpQuiet
  rw [if_neg (by rw [tR hj ht hv ha hN]; simp)]
  exact h _ (ha.put (of_decide_eq_true (by simpa using hd)) _)
end
section
variable {P : Program} {σ : Env} {w : World} {dst : Option Nat} {T : TypeId} {pos : String} {after : Array Edge} {g : Option (Nat × Bool)}
theorem toList_inj {a b : ByteArray} (h : a.toList = b.toList) : a = b := by
  rw [ByteArray.toList_eq, ByteArray.toList_eq] at h
  obtain ⟨⟨x⟩⟩ := a
  obtain ⟨⟨y⟩⟩ := b
  simp at h
  subst h
  rfl
theorem sP (a b : ByteArray) : (a.toList == b.toList) = decide (a = b) := by
  by_cases h : a = b
  · subst h; simp
  · rw [decide_eq_false h]
    exact beq_eq_false_iff_ne.2 (fun h2 => h (toList_inj h2))
theorem gK {x y : Operand} {t t' : TypeId} {a b : ByteArray} (hx : σ.ev x = some (.string a)) (hy : σ.ev y = some (.string b)) : Ex P σ ⟨dst, .binOp .eql t x y t', T, pos, after, g⟩ w (.bool (decide (a = b))) w := fun ρ h => by
  simp [execOp, h x _ hx, h y _ hy, eqGuard, Go.binOp, Op.stringOp, sP]
theorem NC {x y : Operand} {t t' : TypeId} {a b : ByteArray} (hx : σ.ev x = some (.string a)) (hy : σ.ev y = some (.string b)) : Ex P σ ⟨dst, .binOp .neq t x y t', T, pos, after, g⟩ w (.bool (decide (¬ a = b))) w := fun ρ h => by
  simp [execOp, h x _ hx, h y _ hy, eqGuard, Go.binOp, Op.stringOp, sP]
end
def vL (md : Region.Mode) (ops : Array Oper) (j : Nat) : Bool :=
  (List.range ops.size).all fun k => k == j || match ops[j]? with
    | some oj => oj.after.any fun e => Region.binds md e && e.on == k
    | none => false
def LD (P : Program) (md : Region.Mode) (ops : Array Oper) (Q : Exit → Act → World → Prop) (S : World → Prop) : Nat → Array Bool → Act → World → Prop
  | 0, listed, a, w => Region.ready md ops listed = [] ∧ Q .normal a w
  | fuel + 1, listed, a, w => (Region.ready md ops listed = [] → Q .normal a w) ∧
    ∀ i ∈ Region.ready md ops listed, wpOp P ops Q i (fun a' w' => (S w' ∨ vL md ops i = true) ∧ LD P md ops Q S fuel (listed.setIfInBounds i true) a' w') a w
section
variable {P : Program} {ops : Array Oper} {Q : Exit → Act → World → Prop} {md : Region.Mode} {S : World → Prop}
theorem GN : ∀ (fuel : Nat) (listed : Array Bool) (a : Act) (w : World), LD P md ops Q S fuel listed a w → wpAny P md ops Q fuel listed a w
  | 0, _, _, _, h => h
  | fuel + 1, _, _, _, h => ⟨h.1, fun i hi => wpOp_mono (fun a' w' h' => GN fuel _ a' w' h'.2) (h.2 i hi)⟩
theorem JM {i : Nat} {oi : Oper} {v : Value} (hi : ops[i]? = some oi) (hsel : ∀ (j : Nat) (o : Oper) cs b, ops[j]? = some o → o.op ≠ .select cs b)
    (hQ : ∀ c a w, Q (.panic c) (a.put oi.dst v) w → Q (.panic c) a w) :
    ∀ (fuel : Nat) (listed : Array Bool) (a : Act) (w : World),
      (∀ j oj, ops[j]? = some oj → j ≠ i → listed.getD j true = false → (∀ e ∈ oj.after, Region.binds md e = true → e.on ≠ i) → oi.apart ops oj = true) →
      i ∈ Region.ready md ops listed → YieldsIf P ops S oi v a → S w →
      LD P md ops Q S fuel (listed.setIfInBounds i true) (a.put oi.dst v) w → LD P md ops Q S (fuel + 1) listed a w := by
  intro fuel
  induction fuel with
  | zero =>
    intro listed a w _ hr hy hS H
    refine ⟨fun h => (by rw [h] at hr; cases hr), fun j hj => ?_⟩
    by_cases hji : j = i
    · subst hji; exact hy.wpOp hi hS ⟨.inl hS, H⟩
    · have := ready_mono hj hji
      rw [H.1] at this
      cases this
  | succ fuel ih =>
    intro listed a w hfree hr hy hS H
    refine ⟨fun h => (by rw [h] at hr; cases hr), fun j hj => ?_⟩
    by_cases hji : j = i
    · subst hji; exact hy.wpOp hi hS ⟨.inl hS, H⟩
    · have h1 := H.2 j (ready_mono hj hji)
      obtain ⟨hjun, oj, hoj, hall⟩ := mem_ready.1 hj
      have hnot : ∀ e ∈ oj.after, Region.binds md e = true → e.on ≠ i := fun e he hb heq => by
        have h1 := hall e he hb
        have h0 := (mem_ready.1 hr).1
        rw [heq] at h1
        rcases Nat.lt_or_ge i listed.size with h' | h'
        · simp [h'] at h0 h1; rw [h0] at h1; cases h1
        · simp [Array.getElem?_eq_none h'] at h1
      have hlast : vL md ops j ≠ true := fun hl => by
        have hlt : i < ops.size := (Array.getElem?_eq_some_iff.1 hi).1
        have h2 := List.all_eq_true.1 hl i (List.mem_range.2 hlt)
        rw [hoj] at h2
        simp only [Bool.or_eq_true, beq_iff_eq] at h2
        rcases h2 with h2 | h2
        · exact hji h2.symm
        · obtain ⟨e, he, hb⟩ := Array.any_eq_true'.1 h2
          simp only [Bool.and_eq_true, beq_iff_eq] at hb
          exact hnot e he hb.1 hb.2
      have h2 := wpOp_putIf hoj (hfree j oj hoj hji hjun hnot) (fun cs b => hsel i oi cs b hi) (fun cs b => hsel j oj cs b hoj) hQ hy h1
      have hfree' : ∀ k ok, ops[k]? = some ok → k ≠ i → (listed.setIfInBounds j true).getD k true = false →
          (∀ e ∈ ok.after, Region.binds md e = true → e.on ≠ i) → oi.apart ops ok = true := fun k ok hk hki hun hno => by
        refine hfree k ok hk hki ?_ hno
        by_cases hjk : j = k
        · subst hjk; exact hjun
        · rw [getD_set_ne true hjk] at hun; exact hun
      refine wpOp_mono (fun a' w' h3 => ?_) h2
      have hS' : S w' := h3.2.1.resolve_right hlast
      refine ⟨.inl hS', ih (listed.setIfInBounds j true) a' w' hfree' (ready_mono hr (Ne.symm hji)) h3.1 hS' ?_⟩
      rw [Array.setIfInBounds_comm _ _ hji]
      exact h3.2.2
end
def agn (R : iA) : iA
  | .panic c, N, _, w => R (.panic c) N [] w
  | .normal, N, σ, w => R .normal N σ w
  | .exit i, N, σ, w => R (.exit i) N σ w
  | .goto l, N, σ, w => R (.goto l) N σ w
  | .ret, N, σ, w => R .ret N σ w
  | .outgrown, N, σ, w => R .outgrown N σ w
theorem OZ {N : NN} {σ : Env} {a : Act} (h : Fits N σ a) : Fits N [] a := ⟨h.1, h.2.1, fun t v h => by cases h⟩
theorem toQ_agn {R : iA} : ∀ e a w, toQ (agn R) e a w → toQ R e a w := fun e a w h => by
  cases e with
  | panic c => obtain ⟨N, σ, hf, h⟩ := h; exact ⟨N, [], OZ hf, h⟩
  | normal => exact h
  | exit i => exact h
  | goto l => exact h
  | ret => exact h
  | outgrown => exact h
def AE (P : Program) (N : NN) (ops : Array Oper) (R : iA) (S : World → Prop) (fuel : Nat) (listed : Array Bool) (σ : Env) (w : World) : Prop :=
  ∀ a, Fits N σ a → LD P .any ops (toQ (agn R)) S fuel listed a w
def AStep (P : Program) (N : NN) (ops : Array Oper) (R : iA) (S : World → Prop) (fuel : Nat) (listed : Array Bool) (σ : Env) (w : World) (i : Nat) : Prop :=
  ∀ a, Fits N σ a → wpOp P ops (toQ (agn R)) i (fun a' w' => (S w' ∨ vL .any ops i = true) ∧ LD P .any ops (toQ (agn R)) S fuel (listed.setIfInBounds i true) a' w') a w
def AAll (p : Nat → Prop) : List Nat → Prop
  | [] => True
  | i :: r => p i ∧ AAll p r
section
variable {P : Program} {N : NN} {R : iA} {σ : Env} {w : World} {ops : Array Oper} {S : World → Prop} {fuel : Nat} {listed : Array Bool} {d : Nat} {op : Op} {T : TypeId} {pos : String} {after : Array Edge}
theorem fT {id : Nat} {l : List Oper} (S : World → World → Prop) (hm : P.follows .mixedOrders = true)
    (h : ∀ w1, Evo [] w w1 → AE P N l.toArray R (S w1) l.toArray.size (Array.replicate l.toArray.size false) σ w1) : CW P N (.region id l.toArray true) R σ w :=
  fun a ha => wp_mono (wp_region_any hm (GN _ _ _ _ (h _ (UQ w) a ha))) toQ_agn
theorem toQ_put {R : iA} {dst : Option Nat} {v : Value} : ∀ c a w, toQ (agn R) (.panic c) (a.put dst v) w → toQ (agn R) (.panic c) a w := by
  rintro c a w ⟨N, σ, hf, h⟩
  refine ⟨N, [], ⟨?_, ?_, fun t v h => by cases h⟩, h⟩
  · rw [← hf.1]; cases dst <;> simp [Act.put]
  · rw [← hf.2.1]; cases dst <;> rfl
theorem wO (i : Nat) {r : Value} (hi : ops[i]? = some ⟨some d, op, T, pos, after, none⟩) (hs : Region.noSelect ops = true) (hf : Region.free .any ops listed i = true) (hr : (Region.ready .any ops listed).contains i = true)
    (hd : Nat.blt d N.1 = true) (hx : ∀ w', S w' → Ex P σ ⟨some d, op, T, pos, after, none⟩ w' r w') (hS : S w) (h : AE P N ops R S fuel (listed.setIfInBounds i true) ((d, r) :: σ) w) : AE P N ops R S (fuel + 1) listed σ w := fun a ha =>
  JM hi (Region.noSelect_spec hs) (fun c a w => toQ_put c a w) fuel listed a w (Region.free_spec hi hf) (by simpa using hr)
    (.inl ⟨by simp [Region.wanted], fun w' hw' => hx w' hw' a.eval ha.agrees⟩) hS (h _ (ha.put (of_decide_eq_true (by simpa using hd)) r))
theorem aet (i : Nat) {r : Value} (hi : ops[i]? = some ⟨some d, op, T, pos, after, none⟩) (hx : ∀ w', S w' → Ex P σ ⟨some d, op, T, pos, after, none⟩ w' r w') (hS : S w) (h : AE P N ops R S fuel (listed.setIfInBounds i true) ((d, r) :: σ) w) (hs : Region.noSelect ops = true := by kernel_rfl) (hf : Region.free .any ops listed i = true := by kernel_rfl) (hr : (Region.ready .any ops listed).contains i = true := by kernel_rfl) (hd : Nat.blt d N.1 = true := by rfl) : AE P N ops R S (fuel + 1) listed σ w := wO i hi hs hf hr hd hx hS h
theorem bV (rs : List Nat) (hr : Region.ready .any ops listed = rs) (hne : rs.isEmpty = false) (h : AAll (AStep P N ops R S fuel listed σ w) rs) : AE P N ops R S (fuel + 1) listed σ w := fun a ha => by
  refine ⟨fun h0 => ?_, ?_⟩
  · rw [hr] at h0; subst h0; cases hne
  · rw [hr]
    clear hr hne
    induction rs with
    | nil => intro i hi; cases hi
    | cons j rs ih =>
      intro i hi
      rcases List.mem_cons.1 hi with rfl | hi
      · exact h.1 a ha
      · exact ih h.2 i hi
theorem cA {i : Nat} {o : Oper} (hi : ops[i]? = some o) (h : WL P N ops (oS (fun N' σ' w' => N' = N ∧ (S w' ∨ vL .any ops i = true) ∧ AE P N ops R S fuel (listed.setIfInBounds i true) σ' w') (agn R)) [o] σ w) : AStep P N ops R S fuel listed σ w i := fun a ha => by
  have h1 := h a ha
  unfold wpList at h1
  unfold wpOp
  simp only [hi]
  have conv : ∀ a' w', toQ (oS (fun N' σ' w' => N' = N ∧ (S w' ∨ vL .any ops i = true) ∧ AE P N ops R S fuel (listed.setIfInBounds i true) σ' w') (agn R)) .normal a' w' →
      (S w' ∨ vL .any ops i = true) ∧ LD P .any ops (toQ (agn R)) S fuel (listed.setIfInBounds i true) a' w' := by
    rintro a' w' ⟨N', σ', hf, rfl, hs, hae⟩
    exact ⟨hs, hae a' hf⟩
  split
  · rename_i hw
    rw [if_pos hw] at h1
    rcases h1 with h1 | ⟨h1, a0, w0, h2⟩
    · refine .inl ?_
      unfold Oper.wp at h1 ⊢
      generalize (execOp a.eval o).run P w = r at *
      cases r with
      | ok n w' =>
        cases n <;> simp only [Oper.upon] at h1 ⊢
        case value u => exact conv _ _ (by simpa [wpList] using h1)
        case skip => exact conv _ _ (by simpa [wpList] using h1)
        case defer d => exact conv _ _ (by simpa [wpList] using h1)
        case enter f args =>
          refine h1.mono fun e w'' he => ?_
          cases e with
          | returned u => exact conv _ _ (by simpa [wpList] using he)
          | panicked c => exact he
          | outgrown => obtain ⟨a0, w0, h2⟩ := he; exact ⟨a0, w0, h2⟩
        case row row args => exact h1.mono fun u w'' he => conv _ _ (by simpa [wpList] using he)
      | halt x w' =>
        cases x <;> simp only [Oper.upon] at h1 ⊢
        case panic u => exact h1
    · exact .inr ⟨h1, a0, w0, h2⟩
  · rename_i hw
    rw [if_neg hw] at h1
    exact conv _ _ (by simpa [wpList] using h1)
theorem bO {i : Nat} {w : World} (hS : S w ∨ vL .any ops i = true) (h : AE P N ops R S fuel (listed.setIfInBounds i true) σ w) :
    oS (fun N' σ' w' => N' = N ∧ (S w' ∨ vL .any ops i = true) ∧ AE P N ops R S fuel (listed.setIfInBounds i true) σ' w') R .normal N σ w := ⟨rfl, hS, h⟩
theorem dH (hr : Region.ready .any ops listed = []) (h : R .normal N σ w) : AE P N ops R S fuel listed σ w := fun a ha => by
  cases fuel with
  | zero => exact ⟨hr, N, σ, ha, h⟩
  | succ n => exact ⟨fun _ => ⟨N, σ, ha, h⟩, by rw [hr]; intro i hi; cases hi⟩
theorem mK {c : Code} {α : Type} (M : α → Env) (C : Env) (Φ : α → World → Prop) (_hC : Sub C σ) (h1 : CW P N c (oS (fun N' σ' w' => N' = N ∧ ∃ x, Sub (M x) σ' ∧ Sub C σ' ∧ Φ x w') R) σ w) (h2 : ∀ x w', Φ x w' → R .normal N (M x ++ C) w') : CW P N c R σ w := fun a ha => by
  refine wp_mono (h1 a ha) ?_
  intro e a' w' hq
  cases e with
  | normal => obtain ⟨N', σ', hf, rfl, x, hM, hC, hΦ⟩ := hq; exact ⟨N', M x ++ C, Fits.app hM hC hf hf, h2 x w' hΦ⟩
  | exit i => exact hq
  | goto l => exact hq
  | ret => exact hq
  | panic c => exact hq
  | outgrown => exact hq
structure Build (P : Program) (t : TypeId) (places : Array (Nat × Nat)) (zero : Array Value) : Prop where
  ex : ∃ fs z, P.underlying t = some (.struct fs) ∧ (P.info? t).bind (·.zero) = some z ∧ z.cells = zero ∧ ∀ w, (fs.mapM (fun (f : Field) => do pure (f.offset, ← sizeOf f.type)) : Sem (Array (Nat × Nat))).run P w = .ok places w
def OL : List (Nat × Nat) → Nat → Option (Nat × Nat)
  | [], _ => none
  | a :: _, 0 => some a
  | _ :: l, n + 1 => OL l n
theorem ME : ∀ (l : List (Nat × Nat)) (n : Nat), OL l n = l[n]?
  | [], _ => by simp [OL]
  | _ :: _, 0 => by simp [OL]
  | _ :: l, n + 1 => by simp [OL, ME l n]
def qU : List Value → Nat → List Value → List Value
  | l, _, [] => l
  | l, o, v :: r => qU (l.set o v) (o + 1) r
def FR (places : List (Nat × Nat)) : List Value → List (Nat × Value) → Option (List Value)
  | cells, [] => some cells
  | cells, (i, v) :: rest =>
    match OL places i with
    | none => none
    | some (off, size) => cond (Nat.beq v.cells.toList.length size) (cond (Nat.ble (off + size) cells.length) (FR places (qU cells off v.cells.toList) rest) none) none
theorem vG (off : Nat) : ∀ (r l : List Value) (j : Nat), (r.zipIdx j).foldl (fun (cs : Array Value) x => cs.setIfInBounds (off + x.2) x.1) l.toArray = (qU l (off + j) r).toArray
  | [], _, _ => by simp [qU]
  | v :: r, l, j => by
    have := vG off r (l.set (off + j) v) (j + 1)
    simp only [List.zipIdx_cons, List.foldl_cons, List.setIfInBounds_toArray, qU]
    rw [this, Nat.add_assoc]
theorem FQ {places : Array (Nat × Nat)} : ∀ (vs : List (Nat × Value)) (cells r : List Value), FR places.toList cells vs = some r → Instr.fill (fun i => places[i]?) cells.toArray vs = some r.toArray
  | [], cells, r, h => by simp only [FR, Option.some.injEq] at h; subst h; simp [Instr.fill]
  | (i, v) :: vs, cells, r, h => by
    simp only [FR, ME, Array.getElem?_toList] at h
    simp only [Instr.fill]
    cases hp : places[i]? with
    | none => rw [hp] at h; cases h
    | some os =>
      obtain ⟨off, size⟩ := os
      rw [hp] at h
      simp only at h
      cases hb : Nat.beq v.cells.toList.length size with
      | false => rw [hb] at h; cases h
      | true =>
        rw [hb] at h
        cases hl : Nat.ble (off + size) cells.length with
        | false => rw [hl] at h; cases h
        | true =>
          rw [hl] at h
          have h1 : v.cells.size = size := by simpa using Nat.eq_of_beq_eq_true hb
          have h2 : off + size ≤ cells.length := Nat.le_of_ble_eq_true hl
          simp only [cond_true] at h
          have := vG off v.cells.toList cells 0
          simp only
          rw [if_neg (by simp [h1, h2]), ← Array.foldl_toList, Array.toList_zipIdx, this]
          exact FQ vs _ r h
theorem cC {t : TypeId} {parts : Array (Nat × Operand)} {vs : List (Nat × Value)} {places : Array (Nat × Nat)} {zero cells : List Value} {dst : Option Nat} {g : Option (Nat × Bool)} (hB : Build P t places zero.toArray)
    (hp : parts.toList.map (fun p => (p.1, σ.ev p.2)) = vs.map (fun q => (q.1, some q.2))) (hf' : FR places.toList zero vs = some cells) : Ex P σ ⟨dst, .build t parts, T, pos, after, g⟩ w (.agg cells.toArray) w := fun ρ ha => by
  have hf := FQ vs zero cells hf'
  obtain ⟨fs, z, hu, hz, hzc, hr⟩ := hB.ex
  obtain ⟨i, hi, hz'⟩ := Option.bind_eq_some_iff.1 hz
  have hparts : (parts.map fun p => (p.1, ρ p.2)).toList = vs := by
    rw [Array.toList_map]
    clear hf hf'
    revert hp
    generalize parts.toList = l
    intro hp
    induction l generalizing vs with
    | nil => cases vs with | nil => rfl | cons _ _ => simp at hp
    | cons p l ih =>
      cases vs with
      | nil => simp at hp
      | cons x q =>
        simp only [List.map_cons, List.cons.injEq, Prod.mk.injEq] at hp ⊢
        exact ⟨Prod.ext hp.1.1 (ha _ _ hp.1.2), ih hp.2⟩
  rw [Array.toList_map] at hparts
  have hr' := hr w
  simp only [execOp, Instr.build, zeroValue, typeInfo, Sem.run_bind, run_program, Result.andThen_ok, hi, hz', Sem.run_pure, run_underlying hu, hr', hzc, Array.toList_map, hparts, hf]
theorem fW {rest : List Oper} {t U : TypeId} {x y : Operand} {v : Value} {b o : Nat} {cs : Array Value} (hx : σ.ev x = some (.pointer (some ⟨b, o, none⟩))) (hy : σ.ev y = some v) (h1 : v.oneCell' = true) (hs : fQ P t = some 1)
    (hb : w.heap[b]? = some (.cells cs U (0, 0))) (hle : o < cs.size)
    (h : ∀ w', w'.heap[b]? = some (.cells (cs.setIfInBounds o v) U (0, 0)) → Evo [b] w w' → WL P N ops R rest σ w') :
    WL P N ops R (⟨none, .store t x y, T, pos, after, none⟩ :: rest) σ w := bB hx hy h1 hs hb (by simpa using hle) h
theorem FT {f : Fn} {xs : Array Operand} {vs : List Value} {dst : Option Nat} {g : Option (Nat × Bool)} (hxs : xs.toList.map σ.ev = vs.map some) :
    Ex P σ ⟨dst, .makeFunc f #[] xs, T, pos, after, g⟩ w (.func f #[] vs.toArray) w := fun ρ ha => by
  have hargs : xs.map ρ = vs.toArray := by
    apply Array.ext'
    rw [Array.toList_map]
    revert hxs
    generalize xs.toList = l
    intro hxs
    induction l generalizing vs with
    | nil => cases vs with | nil => rfl | cons _ _ => simp at hxs
    | cons x l ih =>
      cases vs with
      | nil => simp at hxs
      | cons v vs =>
        simp only [List.map_cons, List.cons.injEq] at hxs
        simp only [List.map_cons, ha x v hxs.1]
        exact congrArg _ (ih hxs.2)
  simp [execOp, Instr.makeFunc, hargs]
theorem bN {x : Operand} {vs : Array Value} {i : Nat} {v : Value} {dst : Option Nat} {g : Option (Nat × Bool)} (hx : σ.ev x = some (.tuple vs)) (hv : vs[i]? = some v) : Ex P σ ⟨dst, .extract x i, T, pos, after, g⟩ w v w := fun ρ ha => by
  simp [execOp, ha x _ hx, Instr.extract, hv]
theorem aL {rest : List Oper} {f : FuncId} {xs : Array Operand} {ats : Array TypeId} {vs : List Value} {Φ : Value → World → Prop} (hgo : dY P f) (hxs : xs.toList.map σ.ev = vs.map some)
    (hc : Calls P f vs.toArray w (Ret Φ)) (hd : Nat.blt d N.1 = true) (h : ∀ v w', Φ v w' → WL P N ops R rest ((d, v) :: σ) w') :
    WL P N ops R (⟨some d, .call ⟨.value (.func f), xs, ats⟩, T, pos, after, none⟩ :: rest) σ w := wl_call hgo hxs hc (fun k hk => by cases hk; exact hd) h
end
section
variable {P : Program} {σ : Env} {w : World}
def EB (tmps : Array Value) : ResultVar → Sem Value
  | .tmp t => pure (tmps.getD t undef)
  | .cell a t => do loadVar t (← asAddr (tmps.getD a undef))
def ResOk (P : Program) (σ : Env) (w : World) (r : ResultVar) (v : Value) : Prop := ∀ a, Fits (a.tmps.size, a.defers) σ a → (EB a.tmps r).run P w = .ok v w
theorem ResOk.tmp {t : Tmp} {v : Value} (h : σ.get t = some v) : ResOk P σ w (.tmp t) v := fun a ha => by simp only [EB, Sem.run_pure, ha.2.2 t v h]
theorem ResOk.cell1 {t : Tmp} {ty U : TypeId} {b : Nat} {cs : Array Value} {fz : Nat × Nat} {v : Value} (h : σ.get t = some (.pointer (some ⟨b, 0, none⟩))) (ha : kT P ty = some false) (hb : w.heap[b]? = some (.cells cs U fz)) (hv : nth cs.toList 0 = some v) : ResOk P σ w (.cell t ty) v := fun a hf => by
  simp [EB, hf.2.2 t _ h, asAddr, loadVar, mV ha, aY hb hv]
theorem ResOk.cellA {t : Tmp} {ty U : TypeId} {b n : Nat} {cs : Array Value} {fz : Nat × Nat} (h : σ.get t = some (.pointer (some ⟨b, 0, none⟩))) (ha : kT P ty = some true) (hs : fQ P ty = some n) (hb : w.heap[b]? = some (.cells cs U fz)) (hl : cs.size = n) : ResOk P σ w (.cell t ty) (.agg cs) := fun a hf => by
  obtain ⟨inf, hin, hsz⟩ := Option.map_eq_some_iff.1 hs
  have hr := nW (P := P) (w := w) b 0 n 0 #[] cs.toList (by simpa using hl) (fun j v hv => eS hb (by simpa using hv))
  simp [EB, hf.2.2 t _ h, asAddr, loadVar, mV ha, sizeOf, typeInfo, hin, hsz, loadCells, hr]
theorem pO (fn : Func) (tmps : Array Value) : results fn tmps = ((fn.results.mapM (EB tmps)) >>= fun vs => pure (if h : vs.size = 1 then vs[0] else Value.tuple vs)) := by
  unfold results
  congr 1
theorem cI {n : Nat} {fn : Func} {r : ResultVar} {v : Value} {Φ : Value → World → Prop} (hr : fn.results = #[r]) (h1 : ResOk P σ w r v) (h : Φ v w) : nP P fn (Ret Φ) .ret (n, []) σ w := ⟨rfl, fun a ha => by
  refine ⟨v, ?_, _, rfl, h⟩
  rw [pO, hr]
  simp [h1 a ha]⟩
theorem nO {n : Nat} {fn : Func} {r r' : ResultVar} {v v' : Value} {Φ : Value → World → Prop} (hr : fn.results = #[r, r']) (h1 : ResOk P σ w r v) (h2 : ResOk P σ w r' v') (h : Φ (.tuple #[v, v']) w) : nP P fn (Ret Φ) .ret (n, []) σ w := ⟨rfl, fun a ha => by
  refine ⟨.tuple #[v, v'], ?_, _, rfl, h⟩
  rw [pO, hr]
  simp [h1 a ha, h2 a ha]⟩
theorem JK {n : Nat} {fn : Func} {r r' r'' : ResultVar} {v v' v'' : Value} {Φ : Value → World → Prop} (hr : fn.results = #[r, r', r'']) (h1 : ResOk P σ w r v) (h2 : ResOk P σ w r' v') (h3 : ResOk P σ w r'' v'') (h : Φ (.tuple #[v, v', v'']) w) : nP P fn (Ret Φ) .ret (n, []) σ w := ⟨rfl, fun a ha => by
  refine ⟨.tuple #[v, v', v''], ?_, _, rfl, h⟩
  rw [pO, hr]
  simp [h1 a ha, h2 a ha, h3 a ha]⟩
theorem dK {n : Nat} {fn : Func} {t u x : Tmp} {v v' v'' : Value} {Φ : Value → World → Prop} (hr : fn.results = #[.tmp t, .tmp u, .tmp x]) (hv : σ.get t = some v) (hv' : σ.get u = some v') (hv'' : σ.get x = some v'') (h : Φ (.tuple #[v, v', v'']) w) : nP P fn (Ret Φ) .ret (n, []) σ w :=
  JK hr (.tmp hv) (.tmp hv') (.tmp hv'') h
end
section
variable {P : Program} {N : NN} {R : iA} {σ : Env} {w : World} {ops : Array Oper} {rest : List Oper} {d : Nat} {op : Op} {T : TypeId} {pos : String} {after : Array Edge}
theorem aJ {j : Nat} {pol b : Bool} {oj : Oper} {t : Nat} (h : WL P N ops R rest ((d, undef) :: σ) w) (hj : ops[j]? = some oj := by rfl) (ht : oj.dst = some t := by rfl) (hv : σ.get t = some (.bool b) := by rfl) (hb : b = !pol := by rfl) (hN : Nat.blt t N.1 = true := by rfl) (hd : Nat.blt d N.1 = true := by rfl) :
    WL P N ops R (⟨some d, op, T, pos, after, some (j, pol)⟩ :: rest) σ w := wl_no hj ht hv hb hN hd h
theorem eZ {j : Nat} {pol : Bool} {oj : Oper} {t : Nat} (h : WL P N ops R rest ((d, undef) :: σ) w) (hj : ops[j]? = some oj := by rfl) (ht : oj.dst = some t := by rfl) (hv : σ.get t = some undef := by rfl) (hN : Nat.blt t N.1 = true := by rfl) (hd : Nat.blt d N.1 = true := by rfl) :
    WL P N ops R (⟨some d, op, T, pos, after, some (j, pol)⟩ :: rest) σ w := wl_nou hj ht hv hN hd h
theorem aO {dst : Option Nat} {j : Nat} {pol : Bool} {oj : Oper} {t : Nat} (h : WL P N ops R (⟨dst, op, T, pos, after, none⟩ :: rest) σ w) (hj : ops[j]? = some oj := by rfl) (ht : oj.dst = some t := by rfl) (hv : σ.get t = some (.bool pol) := by rfl) (hN : Nat.blt t N.1 = true := by rfl) :
    WL P N ops R (⟨dst, op, T, pos, after, some (j, pol)⟩ :: rest) σ w := wl_go hj ht hv hN h
theorem aB {x : Operand} {v : Value} (h : WL P N ops R rest ((d, v) :: σ) w) (hx : σ.ev x = some v := by rfl) (hd : Nat.blt d N.1 = true := by rfl) : WL P N ops R (⟨some d, .move x, T, pos, after, none⟩ :: rest) σ w := gC hd (aX hx) h
theorem bX {x : Operand} {v : Value} (h : WL P N ops R rest ((d, v) :: σ) w) (hx : σ.ev x = some v := by rfl) (hd : Nat.blt d N.1 = true := by rfl) : WL P N ops R (⟨some d, .assign x, T, pos, after, none⟩ :: rest) σ w := gC hd (eG hx) h
theorem bK {c x y : Operand} {v : Value} (h : WL P N ops R rest ((d, v) :: σ) w) (hc : σ.ev c = some (.bool false) := by rfl) (hx : σ.ev y = some v := by rfl) (hd : Nat.blt d N.1 = true := by rfl) : WL P N ops R (⟨some d, .pick c x y, T, pos, after, none⟩ :: rest) σ w := gC hd (gI hc hx) h
theorem bQ {c x y : Operand} {v : Value} (h : WL P N ops R rest ((d, v) :: σ) w) (hc : σ.ev c = some (.bool true) := by rfl) (hx : σ.ev x = some v := by rfl) (hd : Nat.blt d N.1 = true := by rfl) : WL P N ops R (⟨some d, .pick c x y, T, pos, after, none⟩ :: rest) σ w := gC hd (fV hc hx) h
end
end Go.W
namespace Go.W
open Go.RowKit
theorem wnn {P : Program} {N : NN} {ops : Array Oper} {R : iA} {σ : Env} {w : World} {K : NN → Env → World → Prop} (h : K N σ w) : WL P N ops (oS K R) [] σ w := aQ (aC h)
theorem csr {P : Program} {N : NN} {R : iA} {σ : Env} {w : World} {id : Nat} {l : List Oper} {y : Code} (h : WL P N l.toArray (oS (fun N σ w => CW P N y R σ w) R) l σ w) : CW P N (.seq (.region id l.toArray false) y) R σ w := aI (aG h)
theorem wan {P : Program} {N : NN} {ops : Array Oper} {R : iA} {σ : Env} {w : World} {K : NN → Env → World → Prop} {d : Nat} {T : TypeId} {pos : String} {after : Array Edge} {x : Operand} {v : Value} (h : K N ((d, v) :: σ) w) (hx : σ.ev x = some v := by rfl) (hd : Nat.blt d N.1 = true := by rfl) : WL P N ops (oS K R) [⟨some d, .assign x, T, pos, after, none⟩] σ w := bX (aQ (aC h)) hx hd
theorem wfl {P : Program} {N : NN} {ops : Array Oper} {R : iA} {σ : Env} {w : World} {rest : List Oper} {d d2 : Nat} {T T2 : TypeId} {pos pos2 : String} {after after2 : Array Edge} {x y : Operand} {s t U : TypeId} {i off b o : Nat} {cs : Array Value} {fz : Nat × Nat} {v : Value} (hx : σ.ev x = some (.pointer (some ⟨b, o, none⟩))) (hf : cX P s i = some off) (hy : Env.ev ((d, .pointer (some ⟨b, o + off, none⟩)) :: σ) y = some (.pointer (some ⟨b, o + off, none⟩))) (ht : kT P t = some false) (hb : w.heap[b]? = some (.cells cs U fz)) (hv : nth cs.toList (o + off) = some v) (h : WL P N ops R rest ((d2, v) :: (d, .pointer (some ⟨b, o + off, none⟩)) :: σ) w) (hd : Nat.blt d N.1 = true := by rfl) (hd2 : Nat.blt d2 N.1 = true := by rfl) : WL P N ops R (⟨some d, .fieldAddr s x i, T, pos, after, none⟩ :: ⟨some d2, .load t y, T2, pos2, after2, none⟩ :: rest) σ w := gC hd (aD hx hf) (gC hd2 (aS hy ht (aY hb hv)) h)
theorem wel {P : Program} {N : NN} {ops : Array Oper} {R : iA} {σ : Env} {w : World} {rest : List Oper} {d : Nat} {T : TypeId} {pos : String} {after : Array Edge} {t t' : TypeId} {x y : Operand} {k : IntKind} {m n : Int} (h : WL P N ops R rest ((d, .bool (decide (m = n))) :: σ) w) (hx : σ.ev x = some (.int k m) := by rfl) (hy : σ.ev y = some (.int k n) := by rfl) (hd : Nat.blt d N.1 = true := by rfl) : WL P N ops R (⟨some d, .binOp .eql t x y t', T, pos, after, none⟩ :: rest) σ w := gC hd (lL hx hy) h
end Go.W
namespace Go.Proofs.Ytidpigbinpaaeaa
open Go.Shelf
def wB : Go.Shelf.Ren := ⟨fun | 137 => 69 | 217 => 76 | 266 => 83 | n => n, fun | 9 => 9 | 5 => 5 | 3 => 3 | n => n, fun | n => n⟩
theorem GV : Go.Proofs.Lays.n137 Try.prog wB := {
  mixed := by kernel_rfl
  f137 := Try.func69.trans (congrArg some (by kernel_rfl))
  f217 := Try.func76.trans (congrArg some (by kernel_rfl))
  f266 := Try.func83.trans (congrArg some (by kernel_rfl))
  t3 := Try.underlying3
  a3 := Try.isAgg3
  z3 := Try.sizeOf3
  v3 := Try.zeroValue3
  t5 := Try.underlying5
  a5 := Try.isAgg5
  z5 := Try.sizeOf5
  v5 := Try.zeroValue5
  t9 := Try.underlying9
  a9 := Try.isAgg9
  z9 := Try.sizeOf9
  v9 := Try.zeroValue9 }
open Go.RowKit in
theorem qO (s : ByteArray) (c : Int) (w : World) :
    Calls Try.prog 69 #[.string s, .int .u8 c] w fun e w' => e = .returned (.int .i64 (Lib.indexByte s.data.toList c.toNat.toUInt8)) ∧ w' = w := Any.strings_IndexByte GV s c w
def wA : Go.Shelf.Ren := ⟨fun | 143 => 65 | 219 => 74 | 217 => 76 | 225 => 80 | 224 => 81 | 267 => 82 | 266 => 83 | 314 => 94 | n => n, fun | 9 => 9 | 3 => 3 | 4 => 4 | 5 => 5 | 46 => 129 | 146 => 143 | 51 => 140 | n => n, fun | 1 => 0 | n => n⟩
theorem GU : Go.Proofs.Lays.n143 Try.prog wA := {
  mixed := by kernel_rfl
  f143 := Try.func65.trans (congrArg some (by kernel_rfl))
  f217 := Try.func76.trans (congrArg some (by kernel_rfl))
  f219 := Try.func74.trans (congrArg some (by kernel_rfl))
  f224 := Try.func81.trans (congrArg some (by kernel_rfl))
  f225 := Try.func80.trans (congrArg some (by kernel_rfl))
  f266 := Try.func83.trans (congrArg some (by kernel_rfl))
  f267 := Try.func82.trans (congrArg some (by kernel_rfl))
  f314 := Try.func94.trans (congrArg some (by kernel_rfl))
  t3 := Try.underlying3
  a3 := Try.isAgg3
  z3 := Try.sizeOf3
  v3 := Try.zeroValue3
  t4 := Try.underlying4
  a4 := Try.isAgg4
  z4 := Try.sizeOf4
  v4 := Try.zeroValue4
  t5 := Try.underlying5
  a5 := Try.isAgg5
  z5 := Try.sizeOf5
  v5 := Try.zeroValue5
  t9 := Try.underlying9
  a9 := Try.isAgg9
  z9 := Try.sizeOf9
  v9 := Try.zeroValue9
  t46 := Try.underlying129
  a46 := Try.isAgg129
  z46 := Try.sizeOf129
  v46 := Try.zeroValue129
  t51 := Try.underlying140
  a51 := Try.isAgg140
  z51 := Try.sizeOf140
  v51 := Try.zeroValue140
  t146 := Try.underlying143
  a146 := Try.isAgg143
  z146 := Try.sizeOf143
  v146 := Try.zeroValue143
  g1 := by kernel_rfl }
open Go.RowKit Go.Lib in
theorem uH (s sub : ByteArray) (m : Int) (w : World) (hs : s.size < 4294967281) (hm : w.cell? ⟨0, 0, none⟩ = some (.int .i64 m)) :
    Calls Try.prog 65 #[.string s, .string sub] w fun e w' => e = .returned (.int .i64 (Lib.index s.data.toList sub.data.toList)) ∧ w' = w := Any.strings_Index GU s sub m w hs hm
def vF : Go.Shelf.Ren := ⟨fun | 143 => 65 | 219 => 74 | 217 => 76 | 225 => 80 | 224 => 81 | 267 => 82 | 266 => 83 | 314 => 94 | n => n, fun | 9 => 9 | 3 => 3 | 4 => 4 | 5 => 5 | 46 => 129 | 146 => 143 | 51 => 140 | n => n, fun | 1 => 0 | n => n⟩
theorem Try.laysM143 : Go.Proofs.LaysM.n143 Try.prog vF := {
  mixed := by kernel_rfl
  f143 := Try.func65.trans (congrArg some (by kernel_rfl))
  f217 := Try.func76.trans (congrArg some (by kernel_rfl))
  f219 := Try.func74.trans (congrArg some (by kernel_rfl))
  f224 := Try.func81.trans (congrArg some (by kernel_rfl))
  f225 := Try.func80.trans (congrArg some (by kernel_rfl))
  f266 := Try.func83.trans (congrArg some (by kernel_rfl))
  f267 := Try.func82.trans (congrArg some (by kernel_rfl))
  f314 := Try.func94.trans (congrArg some (by kernel_rfl))
  t3 := Try.underlying3
  a3 := Try.isAgg3
  z3 := Try.sizeOf3
  v3 := Try.zeroValue3
  t4 := Try.underlying4
  a4 := Try.isAgg4
  z4 := Try.sizeOf4
  v4 := Try.zeroValue4
  t5 := Try.underlying5
  a5 := Try.isAgg5
  z5 := Try.sizeOf5
  v5 := Try.zeroValue5
  t9 := Try.underlying9
  a9 := Try.isAgg9
  z9 := Try.sizeOf9
  v9 := Try.zeroValue9
  t46 := Try.underlying129
  a46 := Try.isAgg129
  z46 := Try.sizeOf129
  v46 := Try.zeroValue129
  t51 := Try.underlying140
  a51 := Try.isAgg140
  z51 := Try.sizeOf140
  v51 := Try.zeroValue140
  t146 := Try.underlying143
  a146 := Try.isAgg143
  z146 := Try.sizeOf143
  v146 := Try.zeroValue143
  g1 := by kernel_rfl
  i3 := by kernel_rfl
  i4 := by kernel_rfl
  i5 := by kernel_rfl
  i9 := by kernel_rfl
  i46 := by kernel_rfl
  i51 := by kernel_rfl
  i146 := by kernel_rfl
  m1 := by kernel_rfl
  s1_3 := fun w h => Go.Proofs.cell_of_shapedOpen_int (zero := #[.int .i64 0]) (t := 3) h (of_decide_eq_true (by kernel_rfl)) (by kernel_rfl) rfl (by kernel_rfl) (by kernel_rfl) Try.underlying3 }
def zS : Go.Shelf.Ren := ⟨fun | 6 => 71 | 15 => 79 | 14 => 78 | 28 => 92 | 29 => 93 | 20 => 84 | 21 => 85 | 22 => 86 | 23 => 87 | 24 => 88 | 25 => 89 | 26 => 90 | 27 => 91 | 46 => 95 | 47 => 96 | 48 => 97 | 49 => 98 | 50 => 99 | 57 => 100 | n => n, fun | 22 => 34 | 24 => 78 | 25 => 126 | 3 => 3 | 39 => 129 | 0 => 0 | 53 => 140 | 55 => 142 | 4 => 4 | 46 => 133 | 45 => 132 | 50 => 137 | 5 => 5 | 9 => 9 | 66 => 145 | 70 => 149 | 76 => 151 | 77 => 98 | n => n, fun | n => n⟩
theorem BN : Go.Proofs.SlLaysF0.n6 Try.prog zS := {
  mixed := by kernel_rfl
  f6 := ⟨Try.f71.name, by decide, Try.func71.trans (congrArg some (by kernel_rfl))⟩
  f14 := ⟨Try.f78.name, by decide, Try.func78.trans (congrArg some (by kernel_rfl))⟩
  f15 := Try.func79.trans (congrArg some (by kernel_rfl))
  f20 := ⟨Try.f84.name, by decide, Try.func84.trans (congrArg some (by kernel_rfl))⟩
  f21 := ⟨Try.f85.name, by decide, Try.func85.trans (congrArg some (by kernel_rfl))⟩
  f22 := ⟨Try.f86.name, by decide, Try.func86.trans (congrArg some (by kernel_rfl))⟩
  f23 := ⟨Try.f87.name, by decide, Try.func87.trans (congrArg some (by kernel_rfl))⟩
  f24 := ⟨Try.f88.name, by decide, Try.func88.trans (congrArg some (by kernel_rfl))⟩
  f25 := ⟨Try.f89.name, by decide, Try.func89.trans (congrArg some (by kernel_rfl))⟩
  f26 := ⟨Try.f90.name, by decide, Try.func90.trans (congrArg some (by kernel_rfl))⟩
  f27 := ⟨Try.f91.name, by decide, Try.func91.trans (congrArg some (by kernel_rfl))⟩
  f28 := Try.func92.trans (congrArg some (by kernel_rfl))
  f29 := Try.func93.trans (congrArg some (by kernel_rfl))
  f46 := ⟨Try.f95.name, by decide, Try.func95.trans (congrArg some (by kernel_rfl))⟩
  f47 := Try.func96.trans (congrArg some (by kernel_rfl))
  f48 := Try.func97.trans (congrArg some (by kernel_rfl))
  f49 := ⟨Try.f98.name, by decide, Try.func98.trans (congrArg some (by kernel_rfl))⟩
  f50 := ⟨Try.f99.name, by decide, Try.func99.trans (congrArg some (by kernel_rfl))⟩
  f57 := ⟨Try.f100.name, by decide, Try.func100.trans (congrArg some (by kernel_rfl))⟩
  t0 := Try.underlying0
  a0 := Try.isAgg0
  z0 := Try.sizeOf0
  v0 := Try.zeroValue0
  t3 := Try.underlying3
  a3 := Try.isAgg3
  z3 := Try.sizeOf3
  v3 := Try.zeroValue3
  t4 := Try.underlying4
  a4 := Try.isAgg4
  z4 := Try.sizeOf4
  v4 := Try.zeroValue4
  t5 := Try.underlying5
  a5 := Try.isAgg5
  z5 := Try.sizeOf5
  v5 := Try.zeroValue5
  t9 := Try.underlying9
  a9 := Try.isAgg9
  z9 := Try.sizeOf9
  v9 := Try.zeroValue9
  t22 := Try.underlying34
  a22 := Try.isAgg34
  z22 := Try.sizeOf34
  v22 := Try.zeroValue34
  t25 := Try.underlying126
  a25 := Try.isAgg126
  z25 := Try.sizeOf126
  v25 := Try.zeroValue126
  t39 := Try.underlying129
  a39 := Try.isAgg129
  z39 := Try.sizeOf129
  v39 := Try.zeroValue129
  t45 := Try.underlying132
  a45 := Try.isAgg132
  z45 := Try.sizeOf132
  v45 := Try.zeroValue132
  t46 := Try.underlying133
  a46 := Try.isAgg133
  z46 := Try.sizeOf133
  v46 := Try.zeroValue133
  t50 := Try.underlying137
  a50 := Try.isAgg137
  z50 := Try.sizeOf137
  v50 := Try.zeroValue137
  t53 := Try.underlying140
  a53 := Try.isAgg140
  z53 := Try.sizeOf140
  v53 := Try.zeroValue140
  t55 := Try.underlying142
  a55 := Try.isAgg142
  z55 := Try.sizeOf142
  v55 := Try.zeroValue142
  t66 := Try.underlying145
  a66 := Try.isAgg145
  z66 := Try.sizeOf145
  v66 := Try.zeroValue145
  t70 := Try.underlying149
  a70 := Try.isAgg149
  z70 := Try.sizeOf149
  v70 := Try.zeroValue149
  t76 := Try.underlying151
  a76 := Try.isAgg151
  z76 := Try.sizeOf151
  v76 := Try.zeroValue151
  t77 := Try.underlying98
  a77 := Try.isAgg98
  z77 := Try.sizeOf98
  v77 := Try.zeroValue98 }
end Go.Proofs.Ytidpigbinpaaeaa
namespace Go.Proofs.Ytidpigbinpaaeaa
open Go.ChangeAt Go.ChangeShapes Go.RowKit Go.W Go.WideShapes
def OpensFU {α : Type} (F : Nat) (t : TypeId) (R : Rel α) (μ : α → Nat) : Prop :=
  ∀ (H : Type) (enc : TypeId × Value → H) (w : World) (fuel : Nat) (cs : List Value) (x : DataW H × List MemPlace), fuel ≤ F → DataW.trod enc Try.prog w 0 (fun _ => true) true fuel t cs = some x →
    (∀ n, n ∈ x.1.weights Try.prog t → n ≤ reachBytes) → Rows.uptoBulk x.1 ≤ 1048576 → ∃ d, R [] w cs d ∧ μ d + 26 ≤ 26 * Rows.uptoBulk x.1
theorem IG (F : Nat) {t : TypeId} (ht : Try.prog.underlying t = some .string) : OpensFU F t (fun _ _ vs s => vs = [.string s] ∧ s.size ≤ 1048576) (fun s => s.size) := by
  intro H enc w fuel cs x hfu h hw hbk
  obtain ⟨s, hcs, rfl, _⟩ := DataW.trod_string ht h
  have : s.data.toList.length = s.size := Array.length_toList
  simp only [Rows.uptoBulk] at hbk ⊢
  exact ⟨s, ⟨hcs, by omega⟩, by omega⟩
theorem own : ownKnob Try.prog.godebug = none := by kernel_rfl
theorem laidOut : laidOutB Try.prog = true := by kernel_rfl
end Go.Proofs.Ytidpigbinpaaeaa
namespace Go.W
theorem wrapU {k : IntKind} (hk : k.signed = false) (n : Nat) : k.wrap (n : Int) = ((n % 2 ^ k.bits : Nat) : Int) := by
  cases k <;> simp [IntKind.signed] at hk <;> simp [IntKind.wrap, IntKind.signed, IntKind.bits]
def i64 (n : Int) : Int := if n % 18446744073709551616 < 9223372036854775808 then n % 18446744073709551616 else n % 18446744073709551616 - 18446744073709551616
section
variable {P : Program} {σ : Env} {w : World} {dst : Option Nat} {T : TypeId} {pos : String} {after : Array Edge} {g : Option (Nat × Bool)}
theorem VI {k : IntKind} {m n : Nat} (hk : k.signed = false) (hm : m < 2 ^ k.bits) (hn : n < 2 ^ k.bits) : (BitVec.ofInt k.bits m).toNat = m ∧ (BitVec.ofInt k.bits n).toNat = n := by
  constructor
  · rw [BitVec.ofInt_natCast, BitVec.toNat_ofNat, Nat.mod_eq_of_lt hm]
  · rw [BitVec.ofInt_natCast, BitVec.toNat_ofNat, Nat.mod_eq_of_lt hn]
theorem ex_orN {x y : Operand} {t t' : TypeId} {k : IntKind} {m n : Nat} {x' z : Int} (hx : σ.ev x = some (.int k x')) (hy : σ.ev y = some (.int k z)) (hm : x' = ((m : Nat) : Int)) (hz : z = ((n : Nat) : Int)) (hk : k.signed = false) (h1 : m < 2 ^ k.bits) (h2 : n < 2 ^ k.bits) :
    Ex P σ ⟨dst, .binOp .or t x y t', T, pos, after, g⟩ w (.int k ((m ||| n : Nat) : Int)) w := fun ρ h => by
  subst hm hz
  obtain ⟨e1, e2⟩ := VI hk h1 h2
  simp only [execOp, h x _ hx, h y _ hy]
  have hr := wrapU hk (m ||| n)
  rw [Nat.mod_eq_of_lt (Nat.or_lt_two_pow h1 h2)] at hr
  simp only [eqGuard, Go.binOp, Op.intBits, Sem.run_bind, Sem.run_pure, Result.andThen_ok, BitVec.toNat_or, e1, e2, hr]
  simp
theorem ex_conv {x : Operand} {t t' : TypeId} {k k' : IntKind} {n : Int} (hx : σ.ev x = some (.int k n)) (ht : P.underlying t = some (.int k)) (ht' : P.underlying t' = some (.int k')) :
    Ex P σ ⟨dst, .convert t t' x, T, pos, after, g⟩ w (.int k' (k'.wrap n)) w := fun ρ h => by
  simp [execOp, h x _ hx, convert, run_underlying ht, run_underlying ht', Conv.intToInt]
theorem iH {x : Operand} {t t' : TypeId} {k k' : IntKind} {n : Int} (hx : σ.ev x = some (.int k n)) (ht : P.underlying t = some (.int k)) (ht' : P.underlying t' = some (.int k')) (h1 : k'.min ≤ n) (h2 : n ≤ k'.max) :
    Ex P σ ⟨dst, .convert t t' x, T, pos, after, g⟩ w (.int k' n) w := by
  have := ex_conv (w := w) (dst := dst) (T := T) (pos := pos) (after := after) (g := g) hx ht ht'
  rwa [wC h1 h2] at this
end
def oP (ds : List Nat) : ByteArray := ⟨(ds.map UInt8.ofNat).toArray⟩
theorem GL {a b : List Nat} (ha : ∀ x, x ∈ a → x < 256) (hb : ∀ x, x ∈ b → x < 256) : oP a = oP b ↔ a = b := by
  constructor
  · intro h
    have h1 : a.map UInt8.ofNat = b.map UInt8.ofNat := by
      have := congrArg (fun x : ByteArray => x.data.toList) h
      simpa [oP] using this
    clear h
    induction a generalizing b with
    | nil => cases b with | nil => rfl | cons _ _ => simp at h1
    | cons x a ih =>
      cases b with
      | nil => simp at h1
      | cons y b =>
        simp only [List.map_cons, List.cons.injEq] at h1
        have hx := ha x (by simp)
        have hy := hb y (by simp)
        have h2 := congrArg UInt8.toNat h1.1
        simp [UInt8.toNat_ofNat'] at h2
        rw [ih (fun z hz => ha z (List.mem_cons_of_mem _ hz)) (fun z hz => hb z (List.mem_cons_of_mem _ hz)) h1.2]
        congr 1
        omega
  · intro h; rw [h]
section
variable {P : Program} {σ : Env} {w : World} {dst : Option Nat} {T : TypeId} {pos : String} {after : Array Edge} {g : Option (Nat × Bool)}
theorem FS {x : Operand} {lo hi : Option Operand} {t e : TypeId} {sz a len c} {l h : Nat} {lv hv : Option Int} (hx : σ.ev x = some (.slice a len c)) (ht : P.underlying t = some (.slice e)) (hs : fQ P e = some sz)
    (hlo : (lo.map σ.ev) = lv.map (fun n => some (Value.int .i64 n))) (hhi : (hi.map σ.ev) = hv.map (fun n => some (Value.int .i64 n))) (hl : lv.getD 0 = (l : Nat)) (hh : hv.getD len = (h : Nat)) (hlh : l ≤ h) (hhc : h ≤ c) (hlen : len ≤ c) :
    Ex P σ ⟨dst, .slice t x lo hi none, T, pos, after, g⟩ w (.slice (if c = l then a else a.map (·.add (l * sz))) (h - l) (c - l)) w := fun ρ hρ => by
  obtain ⟨inf, hin, hsz⟩ := Option.map_eq_some_iff.1 hs
  have hL : lo.map ρ = lv.map (fun n => Value.int .i64 n) := by
    cases lo <;> cases lv <;> simp_all
    exact hρ _ _ hlo
  have hH : hi.map ρ = hv.map (fun n => Value.int .i64 n) := by
    cases hi <;> cases hv <;> simp_all
    exact hρ _ _ hhi
  have hb : (Instr.sliceBounds true len c (lo.map ρ) (hi.map ρ) none).run P w = .ok (l, h, c) w := by
    rw [hL, hH]
    cases lv with
    | none =>
      have : l = 0 := by simpa using hl.symm
      subst this
      cases hv with
      | none => have : h = len := by simp at hh; omega
                subst this; simp [Instr.sliceBounds]
      | some n =>
        have : n = (h : Int) := by simpa using hh
        subst this
        simp [Instr.sliceBounds, Instr.sliceBound, asIntOf, hhc]
    | some m =>
      have : m = (l : Int) := by simpa using hl
      subst this
      cases hv with
      | none => have : h = len := by simp at hh; omega
                subst this; simp [Instr.sliceBounds, Instr.sliceBound, asIntOf, hlh]
      | some n =>
        have : n = (h : Int) := by simpa using hh
        subst this
        simp [Instr.sliceBounds, Instr.sliceBound, asIntOf, hhc, hlh]
  simp only [execOp, hρ x _ hx, Instr.sliceAt, run_underlying ht, Sem.run_bind, Result.andThen_ok, Instr.slice, hb]
  simp [sizeOf, typeInfo, hin, hsz, hb]
end
section
variable {P : Program} {N : NN} {R : iA} {σ : Env} {w : World} {ops : Array Oper} {rest : List Oper} {d : Nat} {T : TypeId} {pos : String} {after : Array Edge}
def TP (P : Program) (t : TypeId) : Option (TypeId × Nat × Nat × Array Value) :=
  match P.underlying t with
  | some (.slice e) => match P.info? e with
    | some i => match i.zero with
      | some z => if z.cells.size = i.size then some (e, i.size, i.bytes, z.cells) else none
      | none => none
    | none => none
  | _ => none
def qJ (z : Array Value) (n : Nat) : List Value := (List.replicate n z.toList).flatten
theorem zT (z : Array Value) (n : Nat) : (qJ z n).length = n * z.size := by simp [qJ]
theorem zP {z : Array Value} {n k : Nat} (hz : 0 < z.size) (h : k < n) : (madeCells z n)[k]? = some (z[k % z.size]'(Nat.mod_lt _ hz)) := by
  simp [madeCells, h, Nat.mod_lt _ hz]
theorem zU {z : Array Value} : ∀ {n k : Nat} (hz : 0 < z.size), k < n * z.size → (qJ z n)[k]? = some (z[k % z.size]'(Nat.mod_lt _ hz))
  | 0, k, _, h => by simp at h
  | n + 1, k, hz, h => by
    have e : qJ z (n + 1) = z.toList ++ qJ z n := by simp [qJ, List.replicate_succ]
    rw [e, List.getElem?_append]
    split
    · rename_i hk
      simp at hk
      simp [hk, Nat.mod_eq_of_lt hk]
    · rename_i hk
      simp at hk
      rw [Nat.add_mul] at h
      rw [zU hz (by simp; omega)]
      simp only [Array.length_toList, Option.some.injEq]
      congr 1
      rw [Nat.mod_eq_sub_mod hk]
theorem vX {z : Array Value} {n l : Nat} (hz : 0 < z.size) (hl : l ≤ n) : ((madeCells z (n * z.size)).toList.take (l * z.size)) = qJ z l := by
  have hle : l * z.size ≤ n * z.size := Nat.mul_le_mul_right _ hl
  apply List.ext_getElem?
  intro k
  rw [List.getElem?_take]
  split
  · rename_i hk
    rw [zU hz hk]
    have := zP (z := z) (n := n * z.size) (k := k) hz (by omega)
    simpa using this
  · rename_i hk
    rw [List.getElem?_eq_none]
    rw [zT]; omega
theorem LE {t e : TypeId} {x y : Operand} {kl kc : IntKind} {lv cv : Int} {sz bytes len c : Nat} {z : Array Value} (hd : Nat.blt d N.1 = true) (hx : σ.ev x = some (.int kl lv)) (hy : σ.ev y = some (.int kc cv)) (hf : TP P t = some (e, sz, bytes, z))
    (hlv : lv = (len : Nat)) (hcv : cv = (c : Nat)) (hlc : len ≤ c) (hz : 0 < z.size) (hb : bytes * c ≤ 140737488355328) (hcm : c ≤ 140737488355328)
    (h : ∀ b w', OwnS w' e sz (some ⟨b, 0, none⟩) len c (qJ z len) (some b) → w.heap.size = b → Evo [] w w' → WL P N ops R rest ((d, .slice (some ⟨b, 0, none⟩) len c) :: σ) w') :
    WL P N ops R (⟨some d, .makeSlice t x y, T, pos, after, none⟩ :: rest) σ w := by
  subst hlv hcv
  simp only [TP] at hf
  split at hf <;> try cases hf
  rename_i e' ht
  split at hf <;> try cases hf
  rename_i i hi
  split at hf <;> try cases hf
  rename_i z' hz'
  split at hf <;> try cases hf
  rename_i hsz
  have hbb : (i.bytes : Int) * (c : Int) ≤ 281474976710656 := by
    have : ((i.bytes * c : Nat) : Int) ≤ 281474976710656 := by omega
    rwa [Int.natCast_mul] at this
  have hr := run_make (P := P) w t _ i _ ht hi hz' kl kc len c (by omega) (by omega) hbb (by omega)
  simp only [Int.toNat_natCast] at hr
  refine gC (w' := w.alloc (.cells (madeCells z'.cells (c * i.size)) e)) hd (fun ρ ha => ?_) (h w.heap.size _ ⟨by rw [zT, hsz], .inr ⟨w.heap.size, c, _, rfl, rfl, heap_alloc_new w _, hlc, by unfold maxLen; omega, size_madeCells _ _, ?_⟩⟩ rfl (pF w _))
  · simp [execOp, ha x _ hx, ha y _ hy, hr]
  · rw [← hsz]; exact vX hz hlc
end
def tX (xs : List Value) (o : Nat) (vs : List Value) : List Value := xs.take o ++ vs ++ xs.drop (o + vs.length)
theorem OC {xs vs : List Value} {o : Nat} (h : o + vs.length ≤ xs.length) : (tX xs o vs).length = xs.length := by
  simp only [tX, List.length_append, List.length_take, List.length_drop]; omega
theorem HX {xs vs : List Value} {o m : Nat} (h : o + vs.length ≤ m) (hm : m ≤ xs.length) : (tX xs o vs).take m = tX (xs.take m) o vs := by
  simp only [tX]
  have h1 : (xs.take o ++ vs).length = o + vs.length := by simp only [List.length_append, List.length_take]; omega
  rw [List.take_append, h1, List.take_of_length_le (by omega), List.take_take, Nat.min_eq_left (by omega), List.drop_take]
theorem OwnS.put {w w' : World} {e : TypeId} {sz : Nat} {a : Option Addr} {n c : Nat} {xs vs : List Value} {ob : Option Nat} {g : Nat} {cur : Array Value} {U : TypeId} {o k : Nat} (h : OwnS w e sz a n c xs ob) (hg : ob = some g) (hb : w.heap[g]? = some (.cells cur U (0, 0))) (ho : o = k * sz) (hk : k < n) (hv : vs.length = sz)
    (hb' : w'.heap[g]? = some (.cells (cur.toList.take o ++ vs ++ cur.toList.drop (o + sz)).toArray U (0, 0))) : OwnS w' e sz a n c (tX xs o vs) ob := by
  subst hg ho
  have hl := h.1
  have hle : k * sz + sz ≤ n * sz := by have : (k + 1) * sz ≤ n * sz := Nat.mul_le_mul_right _ hk; rw [Nat.add_mul] at this; omega
  have hxl : xs.length = n * sz := hl
  refine ⟨by rw [OC (by rw [hv]; omega)]; exact hl, ?_⟩
  rcases h.2 with ⟨_, _, h2⟩ | ⟨g', cap, cur', hg, hv2, hbb, hn, hc, hs, ht⟩
  · cases h2
  · cases hg
    rw [hb] at hbb
    cases hbb
    have hncs : n * sz ≤ cap * sz := Nat.mul_le_mul_right _ hn
    refine .inr ⟨g, cap, _, rfl, hv2, hb', hn, hc, ?_, ?_⟩
    · simp only [List.size_toArray, List.length_append, List.length_take, List.length_drop, Array.length_toList]; omega
    · have := HX (xs := cur.toList) (vs := vs) (o := k * sz) (m := n * sz) (by rw [hv]; omega) (by simp only [Array.length_toList]; omega)
      rw [ht] at this
      rw [← this]
      simp only [tX, hv]
structure Sl where
  a : Option Addr
  n : Nat
  c : Nat
  ob : Option Nat
section
variable {w w' : World} {e : TypeId} {sz N : Nat} {S : Nat → Sl} {xs : Nat → List Value} {X : List Nat} {i : Nat}
theorem EM {a : Option Addr} {n c : Nat} {ys : List Value} {ob : Option Nat} (h : OwnS w e sz a n c ys ob) : a = ob.map fun g => ⟨g, 0, none⟩ := by
  rcases h.2 with ⟨h1, _, h3⟩ | ⟨g, cap, cur, hg, hv, _⟩
  · cases h1; subst h3; rfl
  · cases hv; subst hg; rfl
end
abbrev rep (m : Nat) (mk : List Value) : List Value := (List.replicate m mk).flatten
section
variable {w w' : World} {e : TypeId} {sz N : Nat} {s t : Nat → Sl} {mk : Nat → List Value} {X : List Nat} {i : Nat}
end
def sb (s : ByteArray) (n : Nat) : Nat := (s.get! n).toNat
theorem iY (s : ByteArray) (n : Nat) : sb s n < 256 := (s.get! n).toNat_lt
theorem qV (s : ByteArray) (n : Nat) (h : n < s.size) : sb s n = (s[n]'h).toNat := by
  unfold sb
  simp [ByteArray.get!, getElem!_pos, h]
  rfl
section
variable {P : Program} {σ : Env} {w : World} {dst : Option Nat} {T : TypeId} {pos : String} {after : Array Edge} {g : Option (Nat × Bool)}
theorem eE {x i : Operand} {t : TypeId} {k : IntKind} {s : ByteArray} {z : Int} {n : Nat} (hx : σ.ev x = some (.string s)) (hi : σ.ev i = some (.int k z)) (ht : P.underlying t = some .string) (hz : z = (n : Int)) (hn : n < s.size) :
    Ex P σ ⟨dst, .index t x i, T, pos, after, g⟩ w (.int .u8 (sb s n : Nat)) w := fun ρ h => by
  subst hz
  have hc : 0 ≤ (n : Int) ∧ (n : Int) < s.size := ⟨by omega, by omega⟩
  have := run_index_string (P := P) w t s k n ht
  rw [dif_pos hc] at this
  simp only [execOp, h x _ hx, h i _ hi, Sem.run_bind, this, Result.andThen_ok, Sem.run_pure, qV s n hn]
  rfl
theorem CX {x lo hi : Operand} {t : TypeId} {s : ByteArray} {lv hv : Int} {l h : Nat} (hx : σ.ev x = some (.string s)) (hlo : σ.ev lo = some (.int .i64 lv)) (hhi : σ.ev hi = some (.int .i64 hv)) (ht : P.underlying t = some .string) (hl : lv = (l : Int)) (hh : hv = (h : Int)) (hlh : l ≤ h) (hhc : h ≤ s.size) :
    Ex P σ ⟨dst, .slice t x (some lo) (some hi) none, T, pos, after, g⟩ w (.string (s.extract l h)) w := fun ρ hρ => by
  subst hl hh
  have := run_slice_string (P := P) w t s .i64 .i64 (l : Int) (h : Int) ht (by omega) (by omega) (by omega)
  simp only [execOp, hρ x _ hx, Option.map_some, Option.map_none, hρ lo _ hlo, hρ hi _ hhi, Instr.sliceAt, run_underlying ht, Sem.run_bind, Result.andThen_ok, this, Int.toNat_natCast, Sem.run_pure]
theorem iW {x y : Operand} {ats : Array TypeId} {k k' : IntKind} {m n : Int} (hx : σ.ev x = some (.int k m)) (hy : σ.ev y = some (.int k' n)) :
    Ex P σ ⟨dst, .call ⟨.builtin .min, #[x, y], ats⟩, T, pos, after, g⟩ w (.int k (if n < m then n else m)) w := fun ρ h => by
  simp [execOp, resolve, h x _ hx, h y _ hy, invoke, builtin, run_min_int2]
end
section
variable {P : Program} {N : NN} {R : iA} {σ : Env} {w : World} {ops : Array Oper} {rest : List Oper} {d : Nat} {T : TypeId} {pos : String} {after : Array Edge}
theorem zV {x : Operand} {t : TypeId} {s : ByteArray} (hd : Nat.blt d N.1 = true) (hx : σ.ev x = some (.string s)) (ht : P.underlying t = some .string)
    (h : ∀ b w', w'.heap[b]? = some (.stringIter s 0) → w.heap.size = b → Evo [] w w' → WL P N ops R rest ((d, .pointer (some ⟨b, 0, none⟩)) :: σ) w') :
    WL P N ops R (⟨some d, .range t x, T, pos, after, none⟩ :: rest) σ w := by
  refine gC (w' := w.alloc (.stringIter s 0)) hd (fun ρ ha => ?_) (h _ _ (vE w _) rfl (pF w _))
  simp only [execOp, ha x _ hx, Sem.run_bind, run_range_string w t s ht, Result.andThen_ok, Sem.run_pure]
  rfl
theorem JD (w : World) (b : Nat) (o : Obj) : Evo [b] w { w with heap := w.heap.setIfInBounds b o } :=
  ⟨rfl, rfl, rfl, by simp, fun k _ hx => by
    have : b ≠ k := fun e => hx (by simp [e])
    simp [Array.getElem?_setIfInBounds_ne this]⟩
theorem DT {x : Operand} {s : ByteArray} {b p : Nat} (hd : Nat.blt d N.1 = true) (hx : σ.ev x = some (.pointer (some ⟨b, 0, none⟩))) (hb : w.heap[b]? = some (.stringIter s p)) (hp : p < s.size)
    (h : ∀ w', w'.heap[b]? = some (.stringIter s (p + (Utf8.decode s p).2)) → Evo [b] w w' → WL P N ops R rest ((d, .tuple #[.bool true, .int .i64 (p : Nat), .int .i32 ((Utf8.decode s p).1 : Nat)]) :: σ) w') :
    WL P N ops R (⟨some d, .next x true, T, pos, after, none⟩ :: rest) σ w := by
  have hlt : b < w.heap.size := eM hb
  refine gC (w' := { w with heap := w.heap.setIfInBounds b (.stringIter s (p + (Utf8.decode s p).2)) }) hd (fun ρ ha => ?_) (h _ (by simp [hlt]) (JD w b _))
  simp only [execOp, ha x _ hx, Instr.next, getObj, setObj, Sem.run_bind, Sem.run, hb, Result.andThen, hp, if_true]
  simp [goInt, Sem.run]
theorem QA {x : Operand} {s : ByteArray} {b p : Nat} (hd : Nat.blt d N.1 = true) (hx : σ.ev x = some (.pointer (some ⟨b, 0, none⟩))) (hb : w.heap[b]? = some (.stringIter s p)) (hp : ¬ p < s.size)
    (h : WL P N ops R rest ((d, .tuple #[.bool false]) :: σ) w) :
    WL P N ops R (⟨some d, .next x true, T, pos, after, none⟩ :: rest) σ w := by
  refine gC (w' := w) hd (fun ρ ha => ?_) h
  simp only [execOp, ha x _ hx, Instr.next, getObj, setObj, Sem.run_bind, Sem.run, hb, Result.andThen, hp, if_false]
  simp [goInt, Sem.run]
end
section
variable {P : Program} {σ : Env} {w : World} {dst : Option Nat} {T : TypeId} {pos : String} {after : Array Edge} {g : Option (Nat × Bool)}
theorem OwnS.pop {e : TypeId} {sz m c : Nat} {a : Option Addr} {xs r : List Value} {ob : Option Nat} (h : OwnS w e sz a (m + 1) c (xs ++ r) ob) (hr : r.length = sz) : OwnS w e sz a m c xs ob := by
  have h1 := h.1
  rw [List.length_append, hr, Nat.add_mul] at h1
  have h2 : xs.length = m * sz := by omega
  refine ⟨h2, ?_⟩
  rcases h.2 with ⟨_, h3, _⟩ | ⟨g, cap, cur, hg, hv, hb, hn, hc, hs, ht⟩
  · omega
  · cases hv
    refine .inr ⟨g, c, cur, hg, rfl, hb, by omega, hc, hs, ?_⟩
    have h4 := congrArg (List.take (m * sz)) ht
    rw [List.take_take, Nat.min_eq_left (Nat.mul_le_mul_right _ (by omega)), ← h2, List.take_left] at h4
    rw [← h2]; exact h4
theorem OwnS.top {e : TypeId} {sz m c : Nat} {a : Option Addr} {xs r : List Value} {ob : Option Nat} (h : OwnS w e sz a (m + 1) c (xs ++ r) ob) (hr : r.length = sz) : ∃ g, ob = some g ∧ a = some ⟨g, 0, none⟩ ∧ CellsAt w g (0 + m * sz) r := by
  obtain ⟨g, hg, ha, hc⟩ := h.cells (by omega)
  refine ⟨g, hg, ha, fun j v hj => ?_⟩
  have h2 := h.pop hr
  have := hc (m * sz + j) v (by rw [List.getElem?_append_right (by rw [h2.1]; omega), h2.1]; simpa using hj)
  rw [show 0 + (m * sz + j) = 0 + m * sz + j by omega] at this
  exact this
theorem OwnS.get1 {e : TypeId} {n c k b : Nat} {xs : List Value} {ob : Option Nat} {v : Value} (h : OwnS w e 1 (some ⟨b, 0, none⟩) n c xs ob) (hv : xs[k]? = some v) : w.cell? ⟨b, 0 + k * 1, none⟩ = some v := by
  have hk := (List.getElem?_eq_some_iff.1 hv).1
  rw [h.1] at hk
  obtain ⟨g, _, ha, hc⟩ := h.cells (by omega)
  cases ha
  have := hc k v hv
  rw [show 0 + k * 1 = 0 + k by omega]
  exact this
theorem UL {x hi : Operand} {t e e' : TypeId} {sz sz' len c h : Nat} {a : Option Addr} {xs : List Value} {ob : Option Nat} {w1 : World} {hv : Int} (hO : OwnS w1 e' sz' a len c xs ob) (hx : σ.ev x = some (.slice a len c)) (hhi : σ.ev hi = some (.int .i64 hv)) (ht : P.underlying t = some (.slice e)) (hs : fQ P e = some sz)
    (hh : hv = (h : Int)) (hhc : h ≤ c) : Ex P σ ⟨dst, .slice t x none (some hi) none, T, pos, after, g⟩ w (.slice a h c) w := by
  have h1 := FS (P := P) (σ := σ) (w := w) (dst := dst) (T := T) (pos := pos) (after := after) (g := g) (lo := none) (hi := some hi) (l := 0) (h := h) (lv := none) (hv := some hv) hx ht hs rfl (by simp [hhi]) rfl (by simpa using hh) (Nat.zero_le _) hhc hO.le
  have ha := EM hO
  have e1 : (if c = 0 then a else a.map (·.add (0 * sz))) = a := by
    subst ha
    split
    · rfl
    · cases ob with
      | none => rfl
      | some g => simp [Addr.add]
  rw [e1] at h1
  exact h1
end
def HR (R : iA) : iA
  | .goto _, _, _, _ => False
  | .normal, N, σ, w => R .normal N σ w
  | .exit i, N, σ, w => R (.exit i) N σ w
  | .ret, N, σ, w => R .ret N σ w
  | .panic c, N, σ, w => R (.panic c) N σ w
  | .outgrown, N, σ, w => R .outgrown N σ w
section
variable {P : Program} {N : NN} {R : iA} {σ : Env} {w : World}
theorem UY {c : Code} (h : CW P N c (HR R) σ w) : CW P N (.scope c) R σ w := by
  intro a ha
  refine wp_scope_straight (wp_mono (h a ha) ?_)
  intro e a' w' hq
  cases e with
  | goto l => obtain ⟨_, _, _, hk⟩ := hq; exact hk
  | normal => exact hq
  | exit i => exact hq
  | ret => exact hq
  | panic c => exact hq
  | outgrown => exact hq
theorem OM (h : R .normal N σ w) : HR R .normal N σ w := h
theorem uN (h : R .ret N σ w) : HR R .ret N σ w := h
end
def bH (s : ByteArray) (n : Nat) : Int × Nat :=
  if n < s.size ∧ ¬ ((Utf8.decode s n).1 = 65533 ∧ (Utf8.decode s n).2 = 1) then (((Utf8.decode s n).1 : Nat), (Utf8.decode s n).2) else (-1, 0)
section
variable {P : Program} {N : NN} {ops : Array Oper} {R : iA} {rest : List Oper} {σ : Env} {w w' : World} {d : Nat} {op : Op} {dst : Option Nat} {T : TypeId} {pos : String} {after : Array Edge} {g : Option (Nat × Bool)}
theorem JC {x hi : Operand} {t e : TypeId} {sz len c h : Nat} {a : Option Addr} {hv : Int} (hx : σ.ev x = some (.slice a len c)) (hhi : σ.ev hi = some (.int .i64 hv)) (ht : P.underlying t = some (.slice e)) (hs : fQ P e = some sz)
    (hh : hv = (h : Int)) (hhc : h ≤ c) (hlen : len ≤ c) : Ex P σ ⟨dst, .slice t x none (some hi) none, T, pos, after, g⟩ w (.slice (if c = 0 then a else a.map (·.add (0 * sz))) h c) w :=
  FS (P := P) (σ := σ) (w := w) (dst := dst) (T := T) (pos := pos) (after := after) (g := g) (lo := none) (hi := some hi) (l := 0) (h := h) (lv := none) (hv := some hv) hx ht hs rfl (by simp [hhi]) rfl (by simpa using hh) (Nat.zero_le _) hhc hlen
end
end Go.W
namespace Go.W
open Go.RowKit
abbrev tB (D : Nat) : Deferred := { target := .collected D, args := #[] }
section
variable {P : Program} {σ : Env} {w : World}
end
section
variable {P : Program} {N : NN} {R : iA} {σ : Env} {w : World}
end
section
variable {P : Program} {N : NN} {R : iA} {σ : Env} {w : World} {l n : Nat}
end
section
variable {P : Program} {N : NN} {R : iA} {σ : Env} {w w' : World} {ops : Array Oper} {rest : List Oper} {n d : Nat} {op : Op} {T : TypeId} {pos : String} {after : Array Edge}
end
theorem CY {P : Program} {σ : Env} {w : World} {dst : Option Nat} {T : TypeId} {pos : String} {after : Array Edge} {g : Option (Nat × Bool)} {x y : Operand} {ats : Array TypeId} {k k' : IntKind} {m n : Int} (hx : σ.ev x = some (.int k m)) (hy : σ.ev y = some (.int k' n)) :
    Ex P σ ⟨dst, .call ⟨.builtin .max, #[x, y], ats⟩, T, pos, after, g⟩ w (.int k (if m < n then n else m)) w := fun ρ h => by
  simp [execOp, resolve, h x _ hx, h y _ hy, invoke, builtin, run_max_int2]
section
variable {P : Program} {N : NN} {ops : Array Oper} {R : iA} {rest : List Oper} {σ : Env} {w w' : World} {d : Nat} {dst : Option Nat} {T : TypeId} {pos : String} {after : Array Edge} {g : Option (Nat × Bool)}
end
section
variable {P : Program} {N : NN} {ops : Array Oper} {R : iA} {rest : List Oper} {σ : Env} {w w' : World} {d : Nat} {dst : Option Nat} {T : TypeId} {pos : String} {after : Array Edge} {g : Option (Nat × Bool)}
end
section
variable {P : Program} {N : NN} {R : iA} {σ : Env} {w w' : World} {dst : Option Nat} {T : TypeId} {pos : String} {after : Array Edge} {g : Option (Nat × Bool)}
end
section
variable {P : Program} {σ : Env} {w : World} {dst : Option Nat} {T : TypeId} {pos : String} {after : Array Edge} {g : Option (Nat × Bool)}
end
end Go.W
namespace Go.Proofs.Ytidpigbinpaaeaa
open Go.RowKit Go.W
abbrev iv (n : Int) : Value := .int .i64 n
abbrev sv (s : ByteArray) : Value := .string s
inductive Rx where
  | mk (kind r : Int) (ranges : List (Int × Int)) (min max : Int) (lazy : Bool) (cap : Int) (name : ByteArray) (kids : List Rx)
def Rx.kind : Rx → Int | .mk k _ _ _ _ _ _ _ _ => k
def Rx.r : Rx → Int | .mk _ r _ _ _ _ _ _ _ => r
def Rx.ranges : Rx → List (Int × Int) | .mk _ _ l _ _ _ _ _ _ => l
def Rx.min : Rx → Int | .mk _ _ _ m _ _ _ _ _ => m
def Rx.max : Rx → Int | .mk _ _ _ _ m _ _ _ _ => m
def Rx.lazy : Rx → Bool | .mk _ _ _ _ _ z _ _ _ => z
def Rx.cap : Rx → Int | .mk _ _ _ _ _ _ c _ _ => c
def Rx.name : Rx → ByteArray | .mk _ _ _ _ _ _ _ n _ => n
def Rx.kids : Rx → List Rx | .mk _ _ _ _ _ _ _ _ l => l
def RRg : Rel (Int × Int) := fun _ _ vs g => vs = [.int .i32 g.1, .int .i32 g.2]
theorem lX {α : Type} {sz : Nat} {R : Rel α} {X : List Nat} {w : World} : RSl sz R X w (.slice none 0 0) [] := ⟨none, 0, rfl, by simp, fun k hk => by simp at hk⟩
theorem RRg.pers : RRg.Pers := fun _ _ _ _ _ _ h => h
theorem RRg.fresh : RRg.Fresh := fun _ _ _ _ _ _ h => h
def RRx : Nat → Rel Rx
  | 0 => fun _ _ _ _ => False
  | n + 1 => fun X w vs x => ∃ vr vk, vs = [iv x.kind, .int .i32 x.r, vr, iv x.min, iv x.max, .bool x.lazy, iv x.cap, .string x.name, vk] ∧ RSl 2 RRg X w vr x.ranges ∧ RSl 9 (RRx n) X w vk x.kids ∧
      x.ranges.length ≤ 140737488351232 ∧ x.name.size ≤ 140737488351232 ∧ x.kids.length ≤ 140737488351232
theorem RRx.pers : ∀ n, (RRx n).Pers
  | 0 => fun _ _ _ _ _ _ h => h.elim
  | n + 1 => fun X w w' vs x he ⟨vr, vk, h1, h2, h3, h4⟩ => ⟨vr, vk, h1, RSl.evo RRg.pers he h2, RSl.evo (RRx.pers n) he h3, h4⟩
theorem RRx.fresh : ∀ n, (RRx n).Fresh
  | 0 => fun _ _ _ _ _ _ h => h.elim
  | n + 1 => fun X Y w vs x hy ⟨vr, vk, h1, h2, h3, h4⟩ => ⟨vr, vk, h1, RSl.fresh (by decide) RRg.fresh hy h2, RSl.fresh (by decide) (RRx.fresh n) hy h3, h4⟩
theorem RRx.step {n : Nat} {X Y : List Nat} {w w' : World} {vs : List Value} {x : Rx} (h : RRx n X w vs x) (he : Evo X w w') (hy : ∀ y, y ∈ Y → y ∈ X ∨ w.heap.size ≤ y) (hb : ∀ b, b ∈ X → b < w.heap.size) : RRx n Y w' vs x := by
  have h1 : RRx n (Y ++ X) w vs x := RRx.fresh n X (Y ++ X) w vs x (fun y hy' => by rcases List.mem_append.1 hy' with h | h; exact hy y h; exact .inl h) h
  have h2 := RRx.pers n _ _ _ _ _ (he.mono (fun b hb => by simp [hb])) h1
  exact RRx.fresh n (Y ++ X) Y w' vs x (fun y hy' => .inl (by simp [hy'])) h2
abbrev St := Nat × List ByteArray
def fR (c : Nat) : Prop := (48 ≤ c ∧ c ≤ 57) ∨ (65 ≤ c ∧ c ≤ 90) ∨ (97 ≤ c ∧ c ≤ 122) ∨ c = 95
instance (c : Nat) : Decidable (fR c) := by unfold fR; infer_instance
def zM (s : ByteArray) : Prop := ∀ j, j < s.size → fR (sb s j)
def jW (cap : Int) (nm : ByteArray) (ns : List ByteArray) : Prop := cap = (ns.length : Int) + 1 ∧ cap ≤ 100 ∧ zM nm ∧ (nm = ByteArray.mk #[] ∨ nm ∉ ns)
def RangesOk (l : List (Int × Int)) : Prop :=
  (∀ i (h : i < l.length), 0 ≤ l[i].1 ∧ l[i].1 ≤ l[i].2 ∧ l[i].2 ≤ 1114111 ∧ ∀ j (hj : j < l.length), i = j + 1 → l[j].2 + 1 < l[i].1) ∧ ∀ h : l.length = 1, l[0].1 ≠ l[0].2
def rU (k : Int) : Prop := ¬ (k = 4 ∨ k = 5 ∨ k = 6 ∨ k = 7)
structure NodeP (x : Rx) : Prop where
  kind1 : 1 ≤ x.kind
  kind2 : x.kind ≤ 13
  zr : x.kind = 2 ∨ x.r = 0
  zg : x.kind = 3 ∨ x.ranges = []
  zm : x.kind = 6 ∨ (x.min = 0 ∧ x.max = 0 ∧ x.lazy = false)
  zc : x.kind = 7 ∨ (x.cap = 0 ∧ x.name = ByteArray.mk #[])
  lit : x.kind = 2 → 0 ≤ x.r ∧ x.r ≤ 1114111
  cls : x.kind = 3 → RangesOk x.ranges
  two : x.kind = 4 ∨ x.kind = 5 → 2 ≤ x.kids.length
  rep : x.kind = 6 → 0 ≤ x.min ∧ x.min ≤ 1000 ∧ (x.max = -1 ∨ (x.min ≤ x.max ∧ x.max ≤ 1000)) ∧ x.kids.length = 1
  grp : x.kind = 7 → x.kids.length = 1
  leaf : rU x.kind → x.kids = []
structure NodeF (x : Rx) : Prop where
  kind1 : 1 ≤ x.kind
  kind2 : x.kind ≤ 13
  zr : x.kind = 2 ∨ x.r = 0
  zg : x.kind = 3 ∨ (x.ranges.length : Int) = 0
  zm1 : x.kind = 6 ∨ x.min = 0
  zm2 : x.kind = 6 ∨ x.max = 0
  zl : x.kind = 6 ∨ x.lazy = false
  zc : x.kind = 7 ∨ x.cap = 0
  zn : x.kind = 7 ∨ x.name = ByteArray.mk #[]
  lit1 : x.kind = 2 → 0 ≤ x.r
  lit2 : x.kind = 2 → x.r ≤ 1114111
  cls : x.kind = 3 → RangesOk x.ranges
  two : x.kind = 4 ∨ x.kind = 5 → 2 ≤ (x.kids.length : Int)
  rep1 : x.kind = 6 → 0 ≤ x.min
  rep2 : x.kind = 6 → x.min ≤ 1000
  rep3 : x.kind = 6 → x.max = -1 ∨ (x.min ≤ x.max ∧ x.max ≤ 1000)
  rep4 : x.kind = 6 → (x.kids.length : Int) = 1
  grp : x.kind = 7 → (x.kids.length : Int) = 1
  leaf : x.kind = 4 ∨ x.kind = 5 ∨ x.kind = 6 ∨ x.kind = 7 ∨ (x.kids.length : Int) = 0
theorem mW (x : Rx) : NodeP x ↔ NodeF x := by
  constructor
  · intro h
    refine ⟨h.kind1, h.kind2, h.zr, ?_, ?_, ?_, ?_, ?_, ?_, fun k => (h.lit k).1, fun k => (h.lit k).2, h.cls, fun k => by have := h.two k; omega, fun k => (h.rep k).1, fun k => (h.rep k).2.1, fun k => (h.rep k).2.2.1, fun k => by have := (h.rep k).2.2.2; omega, fun k => by have := h.grp k; omega, ?_⟩
    · rcases h.zg with h | h; exact .inl h; right; rw [h]; rfl
    · rcases h.zm with h | h; exact .inl h; exact .inr h.1
    · rcases h.zm with h | h; exact .inl h; exact .inr h.2.1
    · rcases h.zm with h | h; exact .inl h; exact .inr h.2.2
    · rcases h.zc with h | h; exact .inl h; exact .inr h.1
    · rcases h.zc with h | h; exact .inl h; exact .inr h.2
    · by_cases hk : rU x.kind
      · have := h.leaf hk; right; right; right; right; rw [this]; rfl
      · unfold rU at hk; omega
  · intro h
    refine ⟨h.kind1, h.kind2, h.zr, ?_, ?_, ?_, fun k => ⟨h.lit1 k, h.lit2 k⟩, h.cls, fun k => by have := h.two k; omega, fun k => ⟨h.rep1 k, h.rep2 k, h.rep3 k, by have := h.rep4 k; omega⟩, fun k => by have := h.grp k; omega, fun k => ?_⟩
    · rcases h.zg with h | h; exact .inl h; exact .inr (List.length_eq_zero_iff.1 (by omega))
    · by_cases hk : x.kind = 6
      · exact .inl hk
      · exact .inr ⟨h.zm1.resolve_left hk, h.zm2.resolve_left hk, h.zl.resolve_left hk⟩
    · by_cases hk : x.kind = 7
      · exact .inl hk
      · exact .inr ⟨h.zc.resolve_left hk, h.zn.resolve_left hk⟩
    · have := h.leaf
      unfold rU at k
      exact List.length_eq_zero_iff.1 (by omega)
theorem nvx {x : Rx} {Q E R : Prop} (h : NodeF x → False) (he : E) : ∃ b, Value.bool false = .bool b ∧ (b = true ↔ NodeP x ∧ Q) ∧ E ∧ (b = true → R) := ⟨false, rfl, ⟨fun h => (by cases h), fun hh => (h ((mW x).1 hh.1)).elim⟩, he, fun h => by cases h⟩
def Brk (a k : Int) : Prop := (k = 5 ∧ a = 5) ∨ (k = 4 ∧ (a = 5 ∨ a = 4 ∨ a = 1)) ∨ (k = 6 ∧ (a = 5 ∨ a = 4 ∨ a = 1 ∨ a = 6))
instance (a k : Int) : Decidable (Brk a k) := by unfold Brk; infer_instance
open Classical in
mutual
noncomputable def Rx.fine : Rx → Int → St → Option St
  | .mk k r rs mn mx lz cp nm ks, b, st =>
    if st.1 + 1 ≤ 8194 ∧ (if k = 7 then b + 1 else b) ≤ 250 ∧ NodeP (.mk k r rs mn mx lz cp nm ks) ∧ (k = 7 → jW cp nm st.2) then
      dN ks k (if k = 7 then b + 1 else b) (st.1 + 1, if k = 7 then st.2 ++ [nm] else st.2)
    else none
noncomputable def dN : List Rx → Int → Int → St → Option St
  | [], _, _, st => some st
  | x :: xs, k, b, st => match x.fine (b + if Brk x.kind k then 1 else 0) st with
    | none => none
    | some st' => dN xs k b st'
end
open Classical in
theorem Rx.fine_eq (x : Rx) (b : Int) (st : St) : x.fine b st = if st.1 + 1 ≤ 8194 ∧ (if x.kind = 7 then b + 1 else b) ≤ 250 ∧ NodeP x ∧ (x.kind = 7 → jW x.cap x.name st.2) then
      dN x.kids x.kind (if x.kind = 7 then b + 1 else b) (st.1 + 1, if x.kind = 7 then st.2 ++ [x.name] else st.2) else none := by
  cases x; rw [Rx.fine]; rfl
theorem oF {l : List Rx} {j : Nat} (hj : j < l.length) (k b : Int) (st : St) : dN (l.drop j) k b st = (match l[j].fine (b + if Brk l[j].kind k then 1 else 0) st with | none => none | some st' => dN (l.drop (j + 1)) k b st') := by
  rw [List.drop_eq_getElem_cons hj, dN]
theorem CU {l : List Rx} {j : Nat} (hj : ¬ j < l.length) (k b : Int) (st : St) : dN (l.drop j) k b st = some st := by
  rw [List.drop_eq_nil_of_le (by omega), dN]
theorem mC {x : Rx} {b : Int} {st : St} (h : st.1 + 1 ≤ 8194 ∧ (if x.kind = 7 then b + 1 else b) ≤ 250 ∧ NodeP x ∧ (x.kind = 7 → jW x.cap x.name st.2)) :
    x.fine b st = dN x.kids x.kind (if x.kind = 7 then b + 1 else b) (st.1 + 1, if x.kind = 7 then st.2 ++ [x.name] else st.2) := by rw [Rx.fine_eq, if_pos h]
theorem uC {x : Rx} {b : Int} {st : St} (h : ¬ (st.1 + 1 ≤ 8194 ∧ (if x.kind = 7 then b + 1 else b) ≤ 250 ∧ NodeP x ∧ (x.kind = 7 → jW x.cap x.name st.2))) : x.fine b st = none := by rw [Rx.fine_eq, if_neg h]
def Rx.Ok (x : Rx) : Prop := ∃ st, x.fine 0 (0, []) = some st
structure JAt (w : World) (T : TypeId) (jb : Nat) (st : St) (a : Option Addr) (c : Nat) (ob : Option Nat) : Prop where
  blk : w.heap[jb]? = some (.cells #[iv (st.1 : Nat), .slice a st.2.length c] T (0, 0))
  own : OwnS w 9 1 a st.2.length c (st.2.map sv) ob
  ne : ∀ g, ob = some g → g ≠ jb
theorem fO {w : World} {o p p' : Option Nat} (h : Apart o p) (hl : Lt w o) (hp : p' = p ∨ ∃ g, p' = some g ∧ w.heap.size ≤ g) : Apart o p' := fun g h1 h2 => by
  rcases hp with rfl | ⟨g', h3, h4⟩
  · exact h g h1 h2
  · rw [h2] at h3; cases h3; have := hl g h1; omega
theorem ge_ob {w w1 : World} {p p' : Option Nat} (h : Ge w p) (hw : w.heap.size ≤ w1.heap.size) (hp : p' = p ∨ ∃ g, p' = some g ∧ w1.heap.size ≤ g) : Ge w p' := fun g hg => by
  rcases hp with rfl | ⟨g', h3, h4⟩
  · exact h g hg
  · rw [hg] at h3; cases h3; omega
end Go.Proofs.Ytidpigbinpaaeaa
namespace Go.Proofs.Ytidpigbinpaaeaa
open Go.RowKit Go.W
attribute [local irreducible] Decidable.decide
theorem cO : kT Try.prog 21 = some false := by kernel_rfl
theorem kR : kT Try.prog 41 = some false := by kernel_rfl
theorem lS : kT Try.prog 78 = some true := by kernel_rfl
theorem dC : kT Try.prog 9 = some false := by kernel_rfl
theorem uI : DL Try.prog 41 41 = some (9, 1, 16) := by kernel_rfl
theorem fI : pG Try.prog 34 = some 2 := by kernel_rfl
theorem zI : pG Try.prog 41 = some 1 := by kernel_rfl
theorem fU : cX Try.prog 78 0 = some 0 := by kernel_rfl
theorem eT : cX Try.prog 78 1 = some 1 := by kernel_rfl
theorem mD : cX Try.prog 90 1 = some 1 := by kernel_rfl
theorem tI : dY Try.prog 62 := ⟨_, Try.func62, by kernel_rfl, by kernel_rfl⟩
theorem yR : fQ Try.prog 41 = some 1 := by kernel_rfl
theorem fY : fQ Try.prog 78 = some 2 := by kernel_rfl
theorem vP : pN Try.prog 41 = some (9, 1) := by kernel_rfl
theorem nQ : mN Try.prog 78 = some #[.int .i32 0, .int .i32 0] := by kernel_rfl
theorem SK {w : World} {e : TypeId} {a : Option Addr} {n c : Nat} {ys : List ByteArray} {ob : Option Nat} (h : OwnS w e 1 a n c (ys.map sv) ob) (h0 : 0 < n) : ∃ g, a = some ⟨g, 0, none⟩ ∧ ∀ k (hk : k < ys.length), w.cell? ⟨g, 0 + k * 1, none⟩ = some (sv ys[k]) := by
  obtain ⟨g, hg, ha, hc⟩ := h.cells h0
  refine ⟨g, ha, fun k hk => ?_⟩
  rw [Nat.mul_one]
  exact hc k _ (by simp [hk])
def RangesTo (l : List (Int × Int)) (n : Nat) : Prop := ∀ i (h : i < l.length), i < n → 0 ≤ l[i].1 ∧ l[i].1 ≤ l[i].2 ∧ l[i].2 ≤ 1114111 ∧ ∀ j (hj : j < l.length), i = j + 1 → l[j].2 + 1 < l[i].1
theorem RangesTo.succ {l : List (Int × Int)} {n : Nat} (h : RangesTo l n) (hn : n < l.length) (h1 : 0 ≤ l[n].1) (h2 : l[n].1 ≤ l[n].2) (h3 : l[n].2 ≤ 1114111) (h4 : ∀ j (hj : j < l.length), n = j + 1 → l[j].2 + 1 < l[n].1) : RangesTo l (n + 1) := fun i hi hin => by
  by_cases e : i = n
  · subst e; exact ⟨h1, h2, h3, h4⟩
  · exact h i hi (by omega)
theorem RangesTo.ok {l : List (Int × Int)} {n : Nat} (h : RangesTo l n) (hn : l.length ≤ n) (h1 : ∀ h : l.length = 1, l[0].1 ≠ l[0].2) : RangesOk l := ⟨fun i hi => h i hi (by omega), h1⟩
theorem BR {w : World} (c : Nat) : Calls Try.prog 62 #[.int .u8 (c : Nat)] w (Ret fun v w' => v = .bool (decide (fR c)) ∧ Evo [] w w') := by
  refine bE (N := 29) Try.func62 rfl rfl rfl ?_; refine csr (wan (csr (aB (aA (eF rfl rfl) ?_)))); refine aB (bC (t := 5) rfl (fun H => ?_) (fun H => ?_))
  ·refine aO (aB (aO (aA (eW rfl rfl) ?_))); refine bQ (aB (bC (t := 9) rfl (fun I => ?_) (fun I => ?_)))
   ·refine aJ (aJ (aJ (eZ ?_))); refine eZ ?_; refine aJ (bQ (aB (aJ (aJ (aJ (eZ ?_)))))); refine eZ ?_; refine aJ (bQ (aB (aJ (aJ (bQ (wan (aH (br1 ?_)))))))); refine ⟨congrArg Value.bool (Bool.eq_iff_iff.2 ?_), (Evo.refl [] w)⟩
    simp only [decide_eq_true_eq, Bool.false_eq_true, Bool.true_eq_false, true_iff, false_iff, eq_self, iff_true]; unfold fR; omega
   refine aO (aB (aO (aA (eF rfl rfl) ?_))); refine aO (aB (bC (t := 12) rfl (fun D => ?_) (fun D => ?_)))
   ·refine aO (aB (aO (aA (eW rfl rfl) ?_))); refine aO (bQ (bK (aB (bC (t := 17) rfl (fun F => ?_) (fun F => ?_)))))
    ·refine aJ (aJ (aJ (eZ ?_))); refine eZ ?_; refine aJ (bQ (aB (aJ (aJ (bQ (wan (aH (br1 ?_)))))))); refine ⟨congrArg Value.bool (Bool.eq_iff_iff.2 ?_), (Evo.refl [] w)⟩
     simp only [decide_eq_true_eq, Bool.false_eq_true, Bool.true_eq_false, true_iff, false_iff, eq_self, iff_true]; unfold fR; omega
    refine aO (aB (aO (aA (eF rfl rfl) ?_))); refine aO (aB (bC (t := 20) rfl (fun A => ?_) (fun A => ?_)))
    ·refine aO (aB (aO (aA (eW rfl rfl) ?_))); refine aO (bQ (bK (aB (bC (t := 25) rfl (fun B => ?_) (fun B => ?_)))))
     ·refine aJ (aJ (bQ (wan (aH (br1 ?_))))); refine ⟨congrArg Value.bool (Bool.eq_iff_iff.2 ?_), (Evo.refl [] w)⟩
      simp only [decide_eq_true_eq, Bool.false_eq_true, Bool.true_eq_false, true_iff, false_iff, eq_self, iff_true]; unfold fR; omega
     refine aO (aB (aO (wel ?_))); refine bK (wan (aH (br1 ?_))); refine ⟨congrArg Value.bool (Bool.eq_iff_iff.2 ?_), (Evo.refl [] w)⟩
     simp only [decide_eq_true_eq, Bool.false_eq_true, Bool.true_eq_false, true_iff, false_iff, eq_self, iff_true]; unfold fR; omega
    refine aJ (aJ (aO (bK (bK (aB (aO (aB (aO (wel ?_))))))))); refine bK (wan (aH (br1 ?_))); refine ⟨congrArg Value.bool (Bool.eq_iff_iff.2 ?_), (Evo.refl [] w)⟩
    simp only [decide_eq_true_eq, Bool.false_eq_true, Bool.true_eq_false, true_iff, false_iff, eq_self, iff_true]; unfold fR; omega
   refine aJ (aJ (aO (bK (bK (aB (aO (aB (aO (aA (eF rfl rfl) ?_))))))))); refine aO (aB (bC (t := 20) rfl (fun A => ?_) (fun A => ?_)))
   ·refine aO (aB (aO (aA (eW rfl rfl) ?_))); refine aO (bQ (bK (aB (bC (t := 25) rfl (fun B => ?_) (fun B => ?_)))))
    ·refine aJ (aJ (bQ (wan (aH (br1 ?_))))); refine ⟨congrArg Value.bool (Bool.eq_iff_iff.2 ?_), (Evo.refl [] w)⟩
     simp only [decide_eq_true_eq, Bool.false_eq_true, Bool.true_eq_false, true_iff, false_iff, eq_self, iff_true]; unfold fR; omega
    refine aO (aB (aO (wel ?_))); refine bK (wan (aH (br1 ?_))); refine ⟨congrArg Value.bool (Bool.eq_iff_iff.2 ?_), (Evo.refl [] w)⟩
    simp only [decide_eq_true_eq, Bool.false_eq_true, Bool.true_eq_false, true_iff, false_iff, eq_self, iff_true]; unfold fR; omega
   refine aJ (aJ (aO (bK (bK (aB (aO (aB (aO (wel ?_))))))))); refine bK (wan (aH (br1 ?_))); refine ⟨congrArg Value.bool (Bool.eq_iff_iff.2 ?_), (Evo.refl [] w)⟩
   simp only [decide_eq_true_eq, Bool.false_eq_true, Bool.true_eq_false, true_iff, false_iff, eq_self, iff_true]; unfold fR; omega
  refine aJ (aJ (bK (aB (aO (aB (aO (aA (eF rfl rfl) ?_))))))); refine aO (aB (bC (t := 12) rfl (fun D => ?_) (fun D => ?_)))
  ·refine aO (aB (aO (aA (eW rfl rfl) ?_))); refine aO (bQ (bK (aB (bC (t := 17) rfl (fun F => ?_) (fun F => ?_)))))
   ·refine aJ (aJ (aJ (eZ ?_))); refine eZ ?_; refine aJ (bQ (aB (aJ (aJ (bQ (wan (aH (br1 ?_)))))))); refine ⟨congrArg Value.bool (Bool.eq_iff_iff.2 ?_), (Evo.refl [] w)⟩
    simp only [decide_eq_true_eq, Bool.false_eq_true, Bool.true_eq_false, true_iff, false_iff, eq_self, iff_true]; unfold fR; omega
   refine aO (aB (aO (aA (eF rfl rfl) ?_))); refine aO (aB (bC (t := 20) rfl (fun A => ?_) (fun A => ?_)))
   ·refine aO (aB (aO (aA (eW rfl rfl) ?_))); refine aO (bQ (bK (aB (bC (t := 25) rfl (fun B => ?_) (fun B => ?_)))))
    ·refine aJ (aJ (bQ (wan (aH (br1 ?_))))); refine ⟨congrArg Value.bool (Bool.eq_iff_iff.2 ?_), (Evo.refl [] w)⟩
     simp only [decide_eq_true_eq, Bool.false_eq_true, Bool.true_eq_false, true_iff, false_iff, eq_self, iff_true]; unfold fR; omega
    refine aO (aB (aO (wel ?_))); refine bK (wan (aH (br1 ?_))); refine ⟨congrArg Value.bool (Bool.eq_iff_iff.2 ?_), (Evo.refl [] w)⟩
    simp only [decide_eq_true_eq, Bool.false_eq_true, Bool.true_eq_false, true_iff, false_iff, eq_self, iff_true]; unfold fR; omega
   refine aJ (aJ (aO (bK (bK (aB (aO (aB (aO (wel ?_))))))))); refine bK (wan (aH (br1 ?_))); refine ⟨congrArg Value.bool (Bool.eq_iff_iff.2 ?_), (Evo.refl [] w)⟩
   simp only [decide_eq_true_eq, Bool.false_eq_true, Bool.true_eq_false, true_iff, false_iff, eq_self, iff_true]; unfold fR; omega
  refine aJ (aJ (aO (bK (bK (aB (aO (aB (aO (aA (eF rfl rfl) ?_))))))))); refine aO (aB (bC (t := 20) rfl (fun A => ?_) (fun A => ?_)))
  ·refine aO (aB (aO (aA (eW rfl rfl) ?_))); refine aO (bQ (bK (aB (bC (t := 25) rfl (fun B => ?_) (fun B => ?_)))))
   ·refine aJ (aJ (bQ (wan (aH (br1 ?_))))); refine ⟨congrArg Value.bool (Bool.eq_iff_iff.2 ?_), (Evo.refl [] w)⟩
    simp only [decide_eq_true_eq, Bool.false_eq_true, Bool.true_eq_false, true_iff, false_iff, eq_self, iff_true]; unfold fR; omega
   refine aO (aB (aO (wel ?_))); refine bK (wan (aH (br1 ?_))); refine ⟨congrArg Value.bool (Bool.eq_iff_iff.2 ?_), (Evo.refl [] w)⟩
   simp only [decide_eq_true_eq, Bool.false_eq_true, Bool.true_eq_false, true_iff, false_iff, eq_self, iff_true]; unfold fR; omega
  refine aJ (aJ (aO (bK (bK (aB (aO (aB (aO (wel ?_))))))))); refine bK (wan (aH (br1 ?_))); refine ⟨congrArg Value.bool (Bool.eq_iff_iff.2 ?_), (Evo.refl [] w)⟩
  simp only [decide_eq_true_eq, Bool.false_eq_true, Bool.true_eq_false, true_iff, false_iff, eq_self, iff_true]; unfold fR; omega
theorem DF {X : List Nat} {w : World} {v : Value} {l : List (Int × Int)} (hs : RSl 2 RRg X w v l) (hl : l.length ≤ 140737488351232) : Calls Try.prog 51 #[v] w (Ret fun v w' => ∃ b, v = .bool b ∧ (b = true ↔ RangesOk l) ∧ Evo [] w w') := by
  obtain ⟨sa, sc, rfl, hlc, e1⟩ := hs; refine bE (N := 58) Try.func51 rfl rfl rfl ?_; refine csr (wan (aI (csr (aB (aA (aZ rfl Try.underlying34 rfl) ?_))))); refine aB (wnn (bJ ?_)); refine dA (α := Nat) (0) (fun k => [(7, .int .i64 (k : Nat))]) [(0, _), (5, _), (6, _)] (fun k wr => Evo [] w wr ∧ (k ≤ l.length ∧ RangesTo l k)) (fun k => l.length - k) ⟨rfl, trivial⟩ ⟨rfl, rfl, rfl, trivial⟩ ⟨Evo.refl _ _, ⟨Nat.zero_le _, fun i _ h => by omega⟩⟩ ?_; rintro k wr1 ⟨J, ⟨hk, hok⟩⟩; show CW _ _ _ _ [(7, _), (0, _), (5, _), (6, _)] _; have D := (Evo.refl [] w).then J; refine csr (aA (cU rfl rfl) ?_); refine wnn (aI (aW rfl (fun a7 => ?_) (fun a7 => ?_)))
  ·have hk' : k < l.length := by omega
   obtain ⟨b1, o1, vs1, ha1, hb1, -, a8, rfl⟩ := e1 k hk'; refine aM (aC (aI (bJ (csr (aB ?_)))))
   refine aA (cG (n := k) (by rw [ha1]; rfl) rfl fI (by omega)) ?_
   refine aA (cY rfl lS fY (vs := [_, _]) rfl (a8.evo D (by simp))) ?_; refine cL rfl nQ fun b4 w5 a9 O U => ?_; refine bX ?_; refine aV rfl rfl fY a9 rfl rfl ⟨by first | rfl | assumption, by first | rfl | assumption, trivial⟩ fun b6 F L => ?_; have H := (D.then U).step L (Ge.new D O).mem1; have M := (J.then U).step L (Ge.new J O).mem1; refine wnn (aI ?_); refine eH (by kernel_rfl) (by kernel_rfl) ?_; refine bD (fun _ A => aD rfl fU) ?_; refine bD (fun _ A => aS rfl cO (aY (A.blk0 F) rfl)) ?_; refine bD (fun _ A => cU rfl rfl) ?_; refine bD (fun _ A => aX rfl) ?_; refine jT (t := 15) rfl (fun a0 => ?_) (fun a0 => ?_)
   ·refine qln ?_; refine qln ?_; refine qln ?_; refine qln ?_; refine qln ?_; refine bD (fun _ A => fV rfl rfl) ?_; refine bD (fun _ A => aX rfl) ?_; refine qln ?_; refine qln ?_; refine qln ?_; refine bD (fun _ A => fV rfl rfl) ?_; refine bD (fun _ A => aX rfl) ?_; refine qln ?_; refine qln ?_; refine qln ?_; refine eV rfl rfl rfl rfl rfl ?_; refine eV rfl rfl rfl rfl rfl ?_; refine eV rfl rfl rfl rfl rfl ?_; refine eV rfl rfl rfl rfl rfl ?_; refine eV rfl rfl rfl rfl rfl ?_; refine eV rfl rfl rfl rfl rfl ?_; refine eV rfl rfl rfl rfl rfl ?_; refine eV rfl rfl rfl rfl rfl ?_; refine eV rfl rfl rfl rfl rfl ?_; refine eV rfl rfl rfl rfl rfl ?_; refine qln ?_; refine bD (fun _ A => fV rfl rfl) ?_; refine eL (fun I A => aC ?_); refine dD rfl ?_; refine csr (wan (aH (aN (aE (aE (aN (aE (br1 ?_))))))))
    exact ⟨false, rfl, by simp only [Bool.false_eq_true, false_iff]; exact fun h => by have := (h.1 k hk').1; omega, (H.then A)⟩
   refine qlg ?_; refine bD (fun _ A => aD rfl fU) ?_; refine qlg ?_; refine bD (fun _ A => aS rfl cO (aY (A.blk0 F) rfl)) ?_; refine qlg ?_; refine bD (fun _ A => aD rfl eT) ?_; refine qlg ?_; refine bD (fun _ A => aS rfl cO (aY (A.blk0 F) rfl)) ?_; refine qlg ?_; refine bD (fun _ A => fE rfl rfl) ?_; refine bD (fun _ A => gI rfl rfl) ?_; refine bD (fun _ A => aX rfl) ?_; refine jT (t := 22) rfl (fun a1 => ?_) (fun a1 => ?_)
   ·refine qln ?_; refine qln ?_; refine qln ?_; refine bD (fun _ A => fV rfl rfl) ?_; refine bD (fun _ A => aX rfl) ?_; refine qln ?_; refine qln ?_; refine qln ?_; refine eV rfl rfl rfl rfl rfl ?_; refine eV rfl rfl rfl rfl rfl ?_; refine eV rfl rfl rfl rfl rfl ?_; refine eV rfl rfl rfl rfl rfl ?_; refine eV rfl rfl rfl rfl rfl ?_; refine eV rfl rfl rfl rfl rfl ?_; refine eV rfl rfl rfl rfl rfl ?_; refine eV rfl rfl rfl rfl rfl ?_; refine eV rfl rfl rfl rfl rfl ?_; refine eV rfl rfl rfl rfl rfl ?_; refine qln ?_; refine bD (fun _ A => fV rfl rfl) ?_; refine eL (fun I A => aC ?_); refine dD rfl ?_; refine csr (wan (aH (aN (aE (aE (aN (aE (br1 ?_))))))))
    exact ⟨false, rfl, by simp only [Bool.false_eq_true, false_iff]; exact fun h => by have := (h.1 k hk').2.1; omega, (H.then A)⟩
   refine qlg ?_; refine bD (fun _ A => aD rfl eT) ?_; refine qlg ?_; refine bD (fun _ A => aS rfl cO (aY (A.blk0 F) rfl)) ?_; refine qlg ?_; refine bD (fun _ A => fE rfl rfl) ?_; refine bD (fun _ A => gI rfl rfl) ?_; refine bD (fun _ A => aX rfl) ?_; refine jT (t := 27) rfl (fun a2 => ?_) (fun a2 => ?_)
   ·refine qln ?_; refine qln ?_; refine qln ?_; refine eV rfl rfl rfl rfl rfl ?_; refine eV rfl rfl rfl rfl rfl ?_; refine eV rfl rfl rfl rfl rfl ?_; refine eV rfl rfl rfl rfl rfl ?_; refine eV rfl rfl rfl rfl rfl ?_; refine eV rfl rfl rfl rfl rfl ?_; refine eV rfl rfl rfl rfl rfl ?_; refine eV rfl rfl rfl rfl rfl ?_; refine eV rfl rfl rfl rfl rfl ?_; refine eV rfl rfl rfl rfl rfl ?_; refine qln ?_; refine bD (fun _ A => fV rfl rfl) ?_; refine eL (fun I A => aC ?_); refine dD rfl ?_; refine csr (wan (aH (aN (aE (aE (aN (aE (br1 ?_))))))))
    exact ⟨false, rfl, by simp only [Bool.false_eq_true, false_iff]; exact fun h => by have := (h.1 k hk').2.2.1; omega, (H.then A)⟩
   refine qlg ?_; refine bD (fun _ A => aX rfl) ?_; refine qlg ?_; refine bD (fun _ A => fE rfl rfl) ?_; refine qlg ?_; refine bD (fun _ A => aX rfl) ?_; refine jT (t := 30) rfl (fun a3 => ?_) (fun a3 => ?_)
   ·obtain ⟨b2, o2, vs2, ha2, hb2, -, b5, rfl⟩ := e1 (k - 1) (by omega); have hpr := hok (k - 1) (by omega) (by omega); refine qlg ?_; refine bD (fun _ A => aD rfl fU) ?_; refine qlg ?_; refine bD (fun _ A => aS rfl cO (aY (A.blk0 F) rfl)) ?_; refine qlg ?_; refine bD (fun _ A => aX rfl) ?_; refine qlg ?_; refine bD (fun _ A => aX rfl) ?_; refine qlg ?_; refine bD (fun _ A => dJ rfl rfl (by omega) (by omega)) ?_; refine qlg ?_
    refine bD (fun _ A => fA (n := k - 1) (by rw [ha2]; rfl) rfl (by omega) fI (by omega)) ?_
    refine qlg ?_; refine bD (fun _ A => aD rfl eT) ?_; refine qlg ?_; refine bD (fun _ A => aS rfl cO ((b5.evo (H.then A) (by simp)) 1 _ rfl)) ?_; refine qlg ?_; refine bD (fun _ A => iN rfl rfl (by omega) (by omega)) ?_; refine qlg ?_; refine bD (fun _ A => eW rfl rfl) ?_; refine qlg ?_; refine bD (fun _ A => fV rfl rfl) ?_; refine bD (fun _ A => gI rfl rfl) ?_; refine eL (fun I A => aC ?_); refine aW rfl (fun a4 => ?_) (fun a4 => ?_)
    ·refine csr (wan (aH (aN (aE (aE (aN (aE (br1 ?_))))))))
     exact ⟨false, rfl, by simp only [Bool.false_eq_true, false_iff]; exact fun h => by have := (h.1 k hk').2.2.2 (k - 1) (by omega) (by omega); omega, (H.then A)⟩
    refine aM (aP (aC (aG ?_))); refine aA (aK rfl rfl (by omega) (by omega)) ?_; refine aB (aQ (bA ?_)); refine ⟨k + 1, ?_, ⟨rfl, trivial⟩, ⟨rfl, rfl, rfl, trivial⟩, (M.then A), ?_⟩
    · omega
    exact ⟨by omega, hok.succ hk' (by omega) (by omega) (by omega) (fun j hj e => by first | (subst e; simp only [Nat.add_sub_cancel] at *; omega) | omega)⟩
   refine qln ?_; refine qln ?_; refine qln ?_; refine qln ?_; refine qln ?_; refine qln ?_; refine qln ?_; refine qln ?_; refine qln ?_; refine qln ?_; refine qlg ?_; refine bD (fun _ A => gI rfl rfl) ?_; refine bD (fun _ A => gI rfl rfl) ?_; refine eL (fun I A => aC ?_); refine cK rfl ?_; refine aM (aP (aC (aG ?_))); refine aA (aK rfl rfl (by omega) (by omega)) ?_; refine aB (aQ (bA ?_)); refine ⟨k + 1, ?_, ⟨rfl, trivial⟩, ⟨rfl, rfl, rfl, trivial⟩, (M.then A), ?_⟩
   · omega
   exact ⟨by omega, hok.succ hk' (by omega) (by omega) (by omega) (fun j hj e => by first | (subst e; simp only [Nat.add_sub_cancel] at *; omega) | omega)⟩
  refine cN (bL (bL (cM (aC ?_)))); refine aI ?_; refine eH (by kernel_rfl) (by kernel_rfl) ?_; refine bD (fun _ B => aX rfl) ?_; refine bD (fun _ B => aZ rfl Try.underlying34 rfl) ?_; refine bD (fun _ B => gE rfl rfl) ?_; refine bD (fun _ B => aX rfl) ?_; refine jT (t := 47) rfl (fun a5 => ?_) (fun a5 => ?_)
  ·refine qln ?_; refine qln ?_; refine qln ?_; refine qln ?_; refine qln ?_; refine qln ?_; refine qln ?_; refine qln ?_; refine qln ?_; refine bD (fun _ B => fV rfl rfl) ?_; refine bD (fun _ B => eG rfl) ?_; refine eL (fun a6 B => aC ?_); refine aH (br1 ?_)
   exact ⟨true, rfl, by simp only [true_iff]; exact hok.ok (by omega) (fun h => by omega), (D.then B)⟩
  obtain ⟨b3, o3, vs3, ha3, hb3, -, V, rfl⟩ := e1 0 (by omega); refine qlg ?_; refine bD (fun _ B => aX rfl) ?_; refine qlg ?_
  refine bD (fun _ B => fA (n := 0) (by rw [ha3]; rfl) rfl rfl fI (by omega)) ?_
  refine qlg ?_; refine bD (fun _ B => aD rfl fU) ?_; refine qlg ?_; refine bD (fun _ B => aS rfl cO ((V.evo (D.then B) (by simp)) 0 _ rfl)) ?_; refine qlg ?_; refine bD (fun _ B => aX rfl) ?_; refine qlg ?_
  refine bD (fun _ B => fA (n := 0) (by rw [ha3]; rfl) rfl rfl fI (by omega)) ?_
  refine qlg ?_; refine bD (fun _ B => aD rfl eT) ?_; refine qlg ?_; refine bD (fun _ B => aS rfl cO ((V.evo (D.then B) (by simp)) 1 _ rfl)) ?_; refine qlg ?_; refine bD (fun _ B => gE rfl rfl) ?_; refine bD (fun _ B => gI rfl rfl) ?_; refine bD (fun _ B => eG rfl) ?_; refine eL (fun a6 B => aC ?_); refine aH (br1 ?_)
  exact ⟨_, rfl, by simp only [decide_eq_true_eq]; exact ⟨fun h => hok.ok (by omega) (fun _ => h), fun h => h.2 (by omega)⟩, (D.then B)⟩
theorem TK {ns : List ByteArray} {nm : ByteArray} (h : ∀ j (hj : j < ns.length), nm = ByteArray.mk #[] ∨ ¬ ns[j] = nm) : nm = ByteArray.mk #[] ∨ nm ∉ ns := by
  by_cases h0 : nm = ByteArray.mk #[]
  · exact .inl h0
  · right
    intro hm
    obtain ⟨j, hj, he⟩ := List.getElem_of_mem hm
    rcases h j hj with h1 | h1
    · exact h0 h1
    · exact h1 he
theorem CC {w : World} {jb : Nat} {ob ob' : Option Nat} (hne : ∀ g, ob = some g → g ≠ jb) (hlt : jb < w.heap.size) (h : ob' = ob ∨ ∃ g, ob' = some g ∧ w.heap.size ≤ g) : ∀ g, ob' = some g → g ≠ jb := fun g hg => by
  rcases h with rfl | ⟨g', h1, h2⟩
  · exact hne g hg
  · rw [hg] at h1; cases h1; omega
theorem UA {w : World} {jb : Nat} {st : St} {a : Option Addr} {c : Nat} {ob : Option Nat} {cap : Int} {nm : ByteArray} (hJ : JAt w 90 jb st a c ob) (hl : st.2.length ≤ 100000) (hn : nm.size ≤ 140737488351232) :
    Calls Try.prog 52 #[.pointer (some ⟨jb, 0, none⟩), .int .i64 cap, .string nm] w (Ret fun v w' => ∃ b, v = .bool b ∧ (b = true ↔ jW cap nm st.2) ∧ Evo (jb :: ob.toList) w w' ∧
      (b = true → ∃ a' c' ob', JAt w' 90 jb (st.1, st.2 ++ [nm]) a' c' ob' ∧ (ob' = ob ∨ ∃ g, ob' = some g ∧ w.heap.size ≤ g))) := by
  obtain ⟨hB, hO, hne⟩ := hJ
  have hAJN : Apart (some jb) ob := fun g h1 h2 => by cases h1; exact hne jb h2 rfl
  have hlt := eM hB; refine bE (N := 60) Try.func52 rfl rfl rfl ?_; refine csr (wan (aI (csr (aB (aB (aA (aF rfl) (wfl rfl mD rfl kR hB rfl (aA (aZ rfl Try.underlying41 rfl) ?_)))))))); refine aA (aK rfl rfl (by omega) (by omega)) ?_; refine aA (gE rfl rfl) ?_; refine aB (bC (t := 18) rfl (fun F => ?_) (fun F => ?_))
  ·refine aJ (aJ (bQ (wnn (dD rfl ?_)))); refine csr (wan (aH (aE (br1 ?_))))
   exact ⟨false, rfl, by simp only [Bool.false_eq_true, false_iff]; exact fun h => F h.1, (Evo.refl (jb :: ob.toList) w), fun h => by cases h⟩
  refine aO (aB (aO (aA (fE rfl rfl) ?_))); refine bK (wnn (aW rfl (fun a4 => ?_) (fun a4 => ?_)))
  ·refine csr (wan (aH (aE (br1 ?_))))
   exact ⟨false, rfl, by simp only [Bool.false_eq_true, false_iff]; exact fun h => by have := h.2.1; omega, (Evo.refl (jb :: ob.toList) w), fun h => by cases h⟩
  refine aM (aC (aI (csr (aB (aA (bR rfl Try.underlying9 rfl) ?_))))); refine aB (wnn (bJ ?_)); refine dA (α := Nat) (0) (fun k => [(24, .int .i64 (k : Nat))]) [(0, _), (2, _), (23, _)] (fun k wr => Evo [] w wr ∧ (k ≤ nm.size ∧ ∀ j, j < k → fR (sb nm j))) (fun k => nm.size - k) ⟨rfl, trivial⟩ ⟨rfl, rfl, rfl, trivial⟩ ⟨Evo.refl _ _, ⟨Nat.zero_le _, fun j h => by omega⟩⟩ ?_; rintro k wr1 ⟨D, ⟨hk, hok⟩⟩; show CW _ _ _ _ [(24, _), (0, _), (2, _), (23, _)] _; have a1 := (Evo.refl (jb :: ob.toList) w).then D; refine csr (aA (cU rfl rfl) ?_); refine wnn (aI (aW rfl (fun a5 => ?_) (fun a5 => ?_)))
  ·have hk' : k < nm.size := by omega
   refine aM (aC (aI (bJ (csr (aB (wan (csr (aB (aB ?_))))))))); refine aA (eE (n := k) rfl rfl Try.underlying9 rfl (by omega)) ?_; refine aL (vs := [_]) tI rfl (BR (sb nm k)) rfl ?_; rintro _ w6 ⟨rfl, a3⟩; refine aA (oO rfl) ?_; refine wnn (aW rfl (fun H => ?_) (fun H => ?_))
   ·refine csr (wan (aH (aN (aE (aE (aN (aE (br1 ?_))))))))
    exact ⟨false, rfl, by simp only [Bool.false_eq_true, false_iff]; exact fun h => H (h.2.2.1 k hk'), (a1.then a3), fun h => by cases h⟩
   refine aM (aP (aC (aG ?_))); refine aA (aK rfl rfl (by omega) (by omega)) ?_; refine aB (aQ (bA ?_)); refine ⟨k + 1, ?_, ⟨rfl, trivial⟩, ⟨rfl, rfl, rfl, trivial⟩, (D.then a3), ?_⟩
   · omega
   refine ⟨by omega, fun j hj => ?_⟩
   by_cases e : j < k
   · exact hok j e
   · obtain rfl : j = k := by omega
     exact Classical.not_not.1 H
  refine cN (bL (bL (cM (aC ?_)))); refine aI (csr (aB (aA (aF rfl) (wfl rfl mD rfl kR (D.blk0 hB) rfl (aA (aZ rfl Try.underlying41 rfl) ?_))))); refine aB (wnn (bJ ?_)); refine dA (α := Nat) (0) (fun l => [(38, .int .i64 (l : Nat))]) [(0, _), (2, _), (36, _), (37, _)] (fun l wr => Evo [] wr1 wr ∧ (l ≤ st.2.length ∧ ∀ j (hj : j < st.2.length), j < l → nm = ByteArray.mk #[] ∨ ¬ st.2[j] = nm)) (fun l => st.2.length - l) ⟨rfl, trivial⟩ ⟨rfl, rfl, rfl, rfl, trivial⟩ ⟨Evo.refl _ _, ⟨Nat.zero_le _, fun j _ h => by omega⟩⟩ ?_; rintro l wr12 ⟨A, ⟨hl2, hno⟩⟩; show CW _ _ _ _ [(38, _), (0, _), (2, _), (36, _), (37, _)] _; have I := a1.then A; have J := A.blk0 (D.blk0 hB); have O := (hO.evo0 D).evo0 A; refine csr (aA (cU rfl rfl) ?_); refine wnn (aI (aW rfl (fun a6 => ?_) (fun a6 => ?_)))
  ·have hl' : l < st.2.length := by omega
   obtain ⟨gN, haN, hcN⟩ := SK O (by omega); refine aM (aC (aI (bJ (csr ?_))))
   refine aA (cG (n := l) (by rw [haN]; rfl) rfl zI (by omega)) ?_
   refine aA (aS rfl dC (hcN l (by omega))) ?_; refine wan (csr (aB (aA (NC rfl rfl) ?_))); refine aB (bC (t := 44) rfl (fun L => ?_) (fun L => ?_))
   ·refine aO (aB (aO (aB (aO (aA (gK rfl rfl) ?_))))); refine bQ (wnn (aW rfl (fun M => ?_) (fun M => ?_)))
    ·refine csr (wan (aH (aN (aE (aE (aN (aE (br1 ?_))))))))
     exact ⟨false, rfl, by simp only [Bool.false_eq_true, false_iff]; exact fun h => by rcases h.2.2.2 with h1 | h1; exact L h1; exact h1 (M ▸ List.getElem_mem hl'), I, fun h => by cases h⟩
    refine aM (aP (aC (aG ?_))); refine aA (aK rfl rfl (by omega) (by omega)) ?_; refine aB (aQ (bA ?_)); refine ⟨l + 1, ?_, ⟨rfl, trivial⟩, ⟨rfl, rfl, rfl, rfl, trivial⟩, A, ?_⟩
    · omega
    refine ⟨by omega, fun j hj hjl => ?_⟩
    by_cases e : j < l
    · exact hno j hj e
    · obtain rfl : j = l := by omega
      exact .inr M
   refine aJ (aJ (aJ (bK (wnn (cK rfl ?_))))); refine aM (aP (aC (aG ?_))); refine aA (aK rfl rfl (by omega) (by omega)) ?_; refine aB (aQ (bA ?_)); refine ⟨l + 1, ?_, ⟨rfl, trivial⟩, ⟨rfl, rfl, rfl, rfl, trivial⟩, A, ?_⟩
   · omega
   refine ⟨by omega, fun j hj hjl => ?_⟩
   by_cases e : j < l
   · exact hno j hj e
   · exact .inl (Classical.not_not.1 L)
  refine cN (bL (bL (cM (aC ?_)))); refine csr (aB (aB (aA (aF rfl) (wfl rfl mD rfl kR J rfl (aB (bM (vs := [_]) rfl vP rfl rfl rfl rfl fun b7 b8 a7 b6 B => ?_)))))); have hszg := ((I.then B)).size; refine cZ rfl rfl rfl rfl uI (O.evo0 B) (Src.ofOwn a7 ⟨by first | rfl | assumption, trivial⟩) (by omega) fun a2 c2 b9 ob2 b5 U hob39 => ?_; have a8 := (I.then B).step U (fun y hy => .inl (List.mem_cons_of_mem _ hy)); have hob2 : ob2 = ob ∨ ∃ g, ob2 = some g ∧ w.heap.size ≤ g := hob39.imp id (fun ⟨g, h1, h2⟩ => ⟨g, h1, Nat.le_trans hszg h2⟩); refine aA (aF rfl) (aA (aD rfl mD) ?_); refine bB rfl rfl (by first | rfl | assumption) yR (U.blk (B.blk0 J) hAJN.nmem) rfl fun c0 V a0 => ?_
  have a9 := a8.step a0 (fun y hy => .inl (by rw [List.mem_singleton.1 hy]; exact List.mem_cons_self ..))
  have b4 := b5.evo a0 (hAJN.app (Lt.blk (B.blk0 J)) hob39).symm.own1
  try simp only [cH, Nat.reduceAdd] at V
  refine wnn (csr (wan (aH (br1 ?_)))); refine ⟨true, rfl, ?_, a9, fun _ => ⟨a2, c2, ob2, ⟨?_, ?_, CC hne hlt hob2⟩, hob2⟩⟩
  · simp only [true_iff]; exact ⟨Classical.not_not.1 F, by omega, fun j hj => hok j (by omega), TK (fun j hj => hno j hj (by omega))⟩
  · simp only [List.length_append, List.length_cons, List.length_nil]; exact V
  · rw [List.map_append, List.length_append]; exact b4
theorem pL : kT Try.prog 34 = some false := by kernel_rfl
theorem gR : kT Try.prog 35 = some false := by kernel_rfl
theorem bZ : kT Try.prog 37 = some true := by kernel_rfl
theorem aT : kT Try.prog 3 = some false := by kernel_rfl
theorem hD : kT Try.prog 4 = some false := by kernel_rfl
theorem dV : pG Try.prog 35 = some 9 := by kernel_rfl
theorem jL : cX Try.prog 37 0 = some 0 := by kernel_rfl
theorem kM : cX Try.prog 37 1 = some 1 := by kernel_rfl
theorem mJ : cX Try.prog 37 2 = some 2 := by kernel_rfl
theorem eK : cX Try.prog 37 3 = some 3 := by kernel_rfl
theorem fL : cX Try.prog 37 4 = some 4 := by kernel_rfl
theorem mI : cX Try.prog 37 5 = some 5 := by kernel_rfl
theorem mH : cX Try.prog 37 6 = some 6 := by kernel_rfl
theorem rS : cX Try.prog 37 7 = some 7 := by kernel_rfl
theorem eU : cX Try.prog 37 8 = some 8 := by kernel_rfl
theorem KG : dY Try.prog 51 := ⟨_, Try.func51, by kernel_rfl, by kernel_rfl⟩
theorem KF : dY Try.prog 52 := ⟨_, Try.func52, by kernel_rfl, by kernel_rfl⟩
theorem iD : fQ Try.prog 21 = some 1 := by kernel_rfl
theorem JS : fQ Try.prog 34 = some 1 := by kernel_rfl
theorem JR : fQ Try.prog 35 = some 1 := by kernel_rfl
theorem aU : fQ Try.prog 37 = some 9 := by kernel_rfl
theorem bY : fQ Try.prog 3 = some 1 := by kernel_rfl
theorem fP : fQ Try.prog 4 = some 1 := by kernel_rfl
theorem lO : fQ Try.prog 9 = some 1 := by kernel_rfl
theorem eN : mN Try.prog 37 = some #[.int .i64 0, .int .i32 0, .slice none 0 0, .int .i64 0, .int .i64 0, .bool false, .int .i64 0, .string ByteArray.empty, .slice none 0 0] := by kernel_rfl
theorem nK {b jb : Nat} {ob : Option Nat} (h1 : Apart (some b) (some jb)) (h2 : Apart (some b) ob) : b ∉ jb :: ob.toList := fun hm => by
  rcases List.mem_cons.1 hm with h | h
  · exact h1 b rfl (by rw [h])
  · exact h2 b rfl (by simpa using h)
theorem DJ {w : World} (a k : Int) : Calls Try.prog 40 #[.int .i64 a, .int .i64 k] w (Ret fun v w' => v = .bool (decide (Brk a k)) ∧ Evo [] w w') := by
  refine bE (N := 38) Try.func40 rfl rfl rfl ?_; refine csr (wan (aI (csr (aB (wnn (bJ (csr (wel ?_)))))))); refine wan (aW rfl (fun L => ?_) (fun L => ?_))
  ·refine csr (aB (wel ?_)); refine wan (aH (aN (aE (br1 ?_)))); refine ⟨congrArg Value.bool (Bool.eq_iff_iff.2 ?_), (Evo.refl [] w)⟩
   simp only [decide_eq_true_eq, Bool.false_eq_true, Bool.true_eq_false, true_iff, false_iff, eq_self, iff_true]; unfold Brk; omega
  refine csr (wel ?_); refine wan (aW rfl (fun A => ?_) (fun A => ?_))
  ·refine csr (aB (wel ?_)); refine aB (bC (t := 14) rfl (fun B => ?_) (fun B => ?_))
   ·refine aJ (aJ (bQ (aB (aJ (aJ (bQ (wan (aH (aN (aE (br1 ?_))))))))))); refine ⟨congrArg Value.bool (Bool.eq_iff_iff.2 ?_), (Evo.refl [] w)⟩
    simp only [decide_eq_true_eq, Bool.false_eq_true, Bool.true_eq_false, true_iff, false_iff, eq_self, iff_true]; unfold Brk; omega
   refine aO (aB (aO (wel ?_))); refine bK (aB (bC (t := 18) rfl (fun D => ?_) (fun D => ?_)))
   ·refine aJ (aJ (bQ (wan (aH (aN (aE (br1 ?_))))))); refine ⟨congrArg Value.bool (Bool.eq_iff_iff.2 ?_), (Evo.refl [] w)⟩
    simp only [decide_eq_true_eq, Bool.false_eq_true, Bool.true_eq_false, true_iff, false_iff, eq_self, iff_true]; unfold Brk; omega
   refine aO (aB (aO (wel ?_))); refine bK (wan (aH (aN (aE (br1 ?_))))); refine ⟨congrArg Value.bool (Bool.eq_iff_iff.2 ?_), (Evo.refl [] w)⟩
   simp only [decide_eq_true_eq, Bool.false_eq_true, Bool.true_eq_false, true_iff, false_iff, eq_self, iff_true]; unfold Brk; omega
  refine csr (wel ?_); refine wan (aW rfl (fun F => ?_) (fun F => ?_))
  ·refine csr (aB (wel ?_)); refine aB (bC (t := 26) rfl (fun H => ?_) (fun H => ?_))
   ·refine aJ (aJ (bQ (aB (aJ (aJ (bQ (aB (aJ (aJ (bQ (wan (aH (aN (aE (br1 ?_))))))))))))))); refine ⟨congrArg Value.bool (Bool.eq_iff_iff.2 ?_), (Evo.refl [] w)⟩
    simp only [decide_eq_true_eq, Bool.false_eq_true, Bool.true_eq_false, true_iff, false_iff, eq_self, iff_true]; unfold Brk; omega
   refine aO (aB (aO (wel ?_))); refine bK (aB (bC (t := 30) rfl (fun I => ?_) (fun I => ?_)))
   ·refine aJ (aJ (bQ (aB (aJ (aJ (bQ (wan (aH (aN (aE (br1 ?_))))))))))); refine ⟨congrArg Value.bool (Bool.eq_iff_iff.2 ?_), (Evo.refl [] w)⟩
    simp only [decide_eq_true_eq, Bool.false_eq_true, Bool.true_eq_false, true_iff, false_iff, eq_self, iff_true]; unfold Brk; omega
   refine aO (aB (aO (wel ?_))); refine bK (aB (bC (t := 34) rfl (fun J => ?_) (fun J => ?_)))
   ·refine aJ (aJ (bQ (wan (aH (aN (aE (br1 ?_))))))); refine ⟨congrArg Value.bool (Bool.eq_iff_iff.2 ?_), (Evo.refl [] w)⟩
    simp only [decide_eq_true_eq, Bool.false_eq_true, Bool.true_eq_false, true_iff, false_iff, eq_self, iff_true]; unfold Brk; omega
   refine aO (aB (aO (wel ?_))); refine bK (wan (aH (aN (aE (br1 ?_))))); refine ⟨congrArg Value.bool (Bool.eq_iff_iff.2 ?_), (Evo.refl [] w)⟩
   simp only [decide_eq_true_eq, Bool.false_eq_true, Bool.true_eq_false, true_iff, false_iff, eq_self, iff_true]; unfold Brk; omega
  refine aM (aP (aC (csr (wan (aH (br1 ?_)))))); refine ⟨congrArg Value.bool (Bool.eq_iff_iff.2 ?_), (Evo.refl [] w)⟩
  simp only [decide_eq_true_eq, Bool.false_eq_true, Bool.true_eq_false, true_iff, false_iff, eq_self, iff_true]; unfold Brk; omega
structure FdG where
  r : Int
  mn : Int
  mx : Int
  cp : Int
  kd : Int
  rn : Nat
  rc : Nat
  ra : Option Addr
  lz : Bool
  nm : ByteArray
  a2 : Option Addr
  c2 : Nat
  ob2 : Option Nat
@[reducible] def FdP (x : Rx) (st : St) (y : FdG) : Prop := ((x.kids.length : Int) = y.kd ∧ y.r = 0 ∧ (y.rn : Int) = 0 ∧ y.mn = 0 ∧ y.mx = 0 ∧ y.lz = false ∧ y.cp = 0 ∧ y.nm = ByteArray.mk #[]) ↔ (NodeP x ∧ (x.kind = 7 → jW x.cap x.name st.2))
theorem tE {x : Rx} {st : St} {y : FdG} (h1 : 1 ≤ x.kind) (h2 : x.kind ≤ 13) (hr : y.r = if x.kind = 2 then 0 else x.r) (hn : (y.rn : Int) = if x.kind = 3 then 0 else (x.ranges.length : Int)) (hm : y.mn = if x.kind = 6 then 0 else x.min) (hx : y.mx = if x.kind = 6 then 0 else x.max)
    (hl : y.lz = if x.kind = 6 then false else x.lazy) (hc : y.cp = if x.kind = 7 then 0 else x.cap) (hw : y.nm = if x.kind = 7 then ByteArray.mk #[] else x.name) (hk : y.kd = if x.kind = 6 ∨ x.kind = 7 then 1 else if x.kind = 4 ∨ x.kind = 5 then (if 2 < (x.kids.length : Int) then (x.kids.length : Int) else 2) else 0)
    (c2 : x.kind = 2 → 0 ≤ x.r ∧ x.r ≤ 1114111) (c3 : x.kind = 3 → RangesOk x.ranges) (c6 : x.kind = 6 → 0 ≤ x.min ∧ x.min ≤ 1000 ∧ (x.max = -1 ∨ (x.min ≤ x.max ∧ x.max ≤ 1000))) (c7 : x.kind = 7 → jW x.cap x.name st.2) : FdP x st y := by
  unfold FdP
  rw [mW, hr, hn, hm, hx, hl, hc, hw, hk]
  constructor
  · rintro ⟨q1, q2, q3, q4, q5, q6, q7, q8⟩
    refine ⟨⟨h1, h2, ?_, ?_, ?_, ?_, ?_, ?_, ?_, fun k => (c2 k).1, fun k => (c2 k).2, c3, ?_, fun k => (c6 k).1, fun k => (c6 k).2.1, fun k => (c6 k).2.2, ?_, ?_, ?_⟩, c7⟩
    · by_cases k : x.kind = 2; exact .inl k; rw [if_neg k] at q2; exact .inr q2
    · by_cases k : x.kind = 3; exact .inl k; rw [if_neg k] at q3; exact .inr q3
    · by_cases k : x.kind = 6; exact .inl k; rw [if_neg k] at q4; exact .inr q4
    · by_cases k : x.kind = 6; exact .inl k; rw [if_neg k] at q5; exact .inr q5
    · by_cases k : x.kind = 6; exact .inl k; rw [if_neg k] at q6; exact .inr q6
    · by_cases k : x.kind = 7; exact .inl k; rw [if_neg k] at q7; exact .inr q7
    · by_cases k : x.kind = 7; exact .inl k; rw [if_neg k] at q8; exact .inr q8
    · intro k; rw [if_neg (by omega), if_pos k] at q1; split at q1 <;> omega
    · intro k; rw [if_pos (.inl k)] at q1; exact q1
    · intro k; rw [if_pos (.inr k)] at q1; exact q1
    · by_cases k : x.kind = 6 ∨ x.kind = 7; omega; rw [if_neg k] at q1; by_cases k2 : x.kind = 4 ∨ x.kind = 5; omega; rw [if_neg k2] at q1; omega
  · rintro ⟨hf, -⟩
    have g1 := hf.two; have g2 := hf.rep4; have g3 := hf.grp; have g4 := hf.leaf; have f1 := hf.zr; have f2 := hf.zg; have f3 := hf.zm1; have f4 := hf.zm2; have f5 := hf.zl; have f6 := hf.zc; have f7 := hf.zn
    refine ⟨?_, ?_, ?_, ?_, ?_, ?_, ?_, ?_⟩
    · by_cases k : x.kind = 6 ∨ x.kind = 7; rw [if_pos k]; omega; rw [if_neg k]; by_cases k2 : x.kind = 4 ∨ x.kind = 5; rw [if_pos k2]; split <;> omega; rw [if_neg k2]; omega
    · split; rfl; exact f1.resolve_left (by assumption)
    · split; rfl; exact f2.resolve_left (by assumption)
    · split; rfl; exact f3.resolve_left (by assumption)
    · split; rfl; exact f4.resolve_left (by assumption)
    · split; rfl; exact f5.resolve_left (by assumption)
    · split; rfl; exact f6.resolve_left (by assumption)
    · split; rfl; exact f7.resolve_left (by assumption)
theorem nv2 {Q E R : Prop} (h : ¬ Q) (he : E) : ∃ b, Value.bool false = .bool b ∧ (b = true ↔ Q) ∧ E ∧ (b = true → R) := ⟨false, rfl, ⟨fun h => (by cases h), fun hh => (h hh).elim⟩, he, fun h => by cases h⟩
theorem nvy {x : Rx} {Q E R : Prop} (h : NodeF x → False) (he : E) : ∃ b, Value.bool false = .bool b ∧ (b = true ↔ NodeP x ∧ Q) ∧ E ∧ (b = true → R) := ⟨false, rfl, ⟨fun h => (by cases h), fun hh => (h ((mW x).1 hh.1)).elim⟩, he, fun h => by cases h⟩
set_option maxHeartbeats 4000000 in
theorem IY {n : Nat} {w : World} {jb : Nat} {st : St} {a : Option Addr} {c : Nat} {ob : Option Nat} {vs : List Value} {x : Rx} (hJ : JAt w 90 jb st a c ob) (hx : RRx n (jb :: ob.toList) w vs x) (hl : st.2.length ≤ 100000) :
    Calls Try.prog 39 #[.pointer (some ⟨jb, 0, none⟩), .agg vs.toArray] w (Ret fun v w' => ∃ b, v = .bool b ∧ (b = true ↔ NodeP x ∧ (x.kind = 7 → jW x.cap x.name st.2)) ∧ Evo (jb :: ob.toList) w w' ∧
      (b = true → ∃ a' c' ob', JAt w' 90 jb (st.1, if x.kind = 7 then st.2 ++ [x.name] else st.2) a' c' ob' ∧ (ob' = ob ∨ ∃ g, ob' = some g ∧ w.heap.size ≤ g))) := by
  obtain ⟨hB, hO, hne⟩ := hJ
  have hAJN : Apart (some jb) ob := fun g h1 h2 => by cases h1; exact hne jb h2 rfl
  have hlt := eM hB
  cases n with
  | zero => exact hx.elim
  | succ n =>
  obtain ⟨vr, vk, rfl, hr, hk, bl1, bl2, bl3⟩ := hx; obtain ⟨ka, kc, rfl, hkc, e1⟩ := hk; have hr0 := hr; obtain ⟨ra, rc, rfl, hrc, e2⟩ := hr; refine bE (N := 127) Try.func39 rfl rfl rfl ?_; refine csr (gD rfl rfl fun b3 w1 f6 f7 e0 => ?_); have i7 := f7; have e5 := Apart.new (Lt.blk hB) f7; have h0 := (Evo.refl (jb :: ob.toList) w).then e0; refine wan (csr (aA (bW rfl bZ aU f6 rfl) (cL rfl eN fun b5 j6 h3 a6 b9 => ?_))); have i8 := a6; have B := Apart.new (Lt.blk (e0.blk0 hB)) a6; have F := Apart.new (Lt.own (hO.evo0 e0)) a6; have H := Apart.new (Lt.blk f6) a6; have I := Ge.new h0 a6; refine aV rfl rfl aU h3 rfl rfl ⟨by first | rfl | assumption, by first | rfl | assumption, by first | rfl | assumption, by first | rfl | assumption, by first | rfl | assumption, by first | rfl | assumption, by first | rfl | assumption, by first | rfl | assumption, by first | rfl | assumption, trivial⟩ fun j7 f8 c0 => ?_
  try simp only [cH, Nat.reduceAdd] at f8
  refine wnn (csr (aA (aD rfl jL) ?_)); refine bB rfl rfl (by first | rfl | assumption) bY f8 rfl fun j8 f9 c1 => ?_
  try simp only [cH, Nat.reduceAdd] at f9
  refine aA (aD rfl eU) ?_; refine bB rfl rfl (by first | rfl | assumption) JR f9 rfl fun U g0 c3 => ?_; have g1 := c3.blk (c1.blk (c0.blk (b9.blk0 f6) H.nmem1) H.nmem1) H.nmem1
  try simp only [cH, Nat.reduceAdd] at g0
  refine wnn (csr (wan (aI (mK (α := FdG) (fun y => [(6, .int .i64 y.kd)]) [(3, _), (5, _)] (fun y wr => Evo (jb :: ob.toList) w wr ∧ (wr.heap[b3]? = some (.cells #[iv x.kind, .int .i32 x.r, .slice ra x.ranges.length rc, iv x.min, iv x.max, .bool x.lazy, iv x.cap, .string x.name, .slice ka x.kids.length kc] 37 (0, 0)) ∧ wr.heap[b5]? = some (.cells #[iv 0, .int .i32 y.r, .slice y.ra y.rn y.rc, iv y.mn, iv y.mx, .bool y.lz, iv y.cp, .string y.nm, .slice none 0 0] 37 (0, 0)) ∧ JAt wr 90 jb (st.1, if x.kind = 7 then st.2 ++ [x.name] else st.2) y.a2 y.c2 y.ob2 ∧ (y.ob2 = ob ∨ ∃ g, y.ob2 = some g ∧ w.heap.size ≤ g) ∧ FdP x st y)) ⟨rfl, rfl, trivial⟩ ?_ ?_))))
  ·refine csr (wfl rfl jL rfl aT g1 rfl (wnn (bJ (aI (mK (α := Bool) (fun z => [(12, .bool z)]) [(0, _), (3, _), (4, _), (5, _), (6, _), (11, _)] (fun z wr => Evo [] U wr ∧ (z = true ↔ (x.kind = 1 ∨ (8 ≤ x.kind ∧ x.kind ≤ 13)))) ⟨rfl, rfl, rfl, rfl, rfl, rfl, trivial⟩ ?_ ?_)))))
   ·refine csr (wel ?_); refine wan (aW rfl (fun A => ?_) (fun A => ?_))
    ·refine aM (bA ?_); refine ⟨(decide (x.kind = 1)), ⟨rfl, trivial⟩, ⟨rfl, rfl, rfl, rfl, rfl, rfl, trivial⟩, (Evo.refl [] U), ?_⟩
     simp only [decide_eq_true_eq]; omega
    refine csr (wel ?_); refine wan (aW rfl (fun A => ?_) (fun A => ?_))
    ·refine aM (bA ?_); refine ⟨(decide (x.kind = 8)), ⟨rfl, trivial⟩, ⟨rfl, rfl, rfl, rfl, rfl, rfl, trivial⟩, (Evo.refl [] U), ?_⟩
     simp only [decide_eq_true_eq]; omega
    refine csr (wel ?_); refine wan (aW rfl (fun A => ?_) (fun A => ?_))
    ·refine aM (bA ?_); refine ⟨(decide (x.kind = 9)), ⟨rfl, trivial⟩, ⟨rfl, rfl, rfl, rfl, rfl, rfl, trivial⟩, (Evo.refl [] U), ?_⟩
     simp only [decide_eq_true_eq]; omega
    refine csr (wel ?_); refine wan (aW rfl (fun A => ?_) (fun A => ?_))
    ·refine aM (bA ?_); refine ⟨(decide (x.kind = 10)), ⟨rfl, trivial⟩, ⟨rfl, rfl, rfl, rfl, rfl, rfl, trivial⟩, (Evo.refl [] U), ?_⟩
     simp only [decide_eq_true_eq]; omega
    refine csr (wel ?_); refine wan (aW rfl (fun A => ?_) (fun A => ?_))
    ·refine aM (bA ?_); refine ⟨(decide (x.kind = 11)), ⟨rfl, trivial⟩, ⟨rfl, rfl, rfl, rfl, rfl, rfl, trivial⟩, (Evo.refl [] U), ?_⟩
     simp only [decide_eq_true_eq]; omega
    refine csr (wel ?_); refine wan (aW rfl (fun A => ?_) (fun A => ?_))
    ·refine aM (bA ?_); refine ⟨(decide (x.kind = 12)), ⟨rfl, trivial⟩, ⟨rfl, rfl, rfl, rfl, rfl, rfl, trivial⟩, (Evo.refl [] U), ?_⟩
     simp only [decide_eq_true_eq]; omega
    refine aG (wel ?_); refine bX (aQ (bA ?_)); refine ⟨(decide (x.kind = 13)), ⟨rfl, trivial⟩, ⟨rfl, rfl, rfl, rfl, rfl, rfl, trivial⟩, (Evo.refl [] U), ?_⟩
    simp only [decide_eq_true_eq]; omega
   rintro z g2 ⟨a7, hz⟩; refine aC ?_; show CW _ _ _ _ [(12, _), (0, _), (3, _), (4, _), (5, _), (6, _), (11, _)] _; have M := ((((h0.then b9).step c0 I.mem1).step c1 I.mem1).step c3 I.mem1).then a7; have c4 := a7.blk0 (c3.blk (c1.blk (c0.blk (b9.blk0 (e0.blk0 hB)) B.nmem1) B.nmem1) B.nmem1); have c5 := (((((hO.evo0 e0).evo0 b9).evo c0 F.own1).evo c1 F.own1).evo c3 F.own1).evo0 a7; have O := a7.blk0 g1; have c6 := a7.blk0 g0; refine fG rfl (fun A => ?_) (fun A => ?_)
   ·subst A; have hk12 := hz.1 rfl; refine aM (aP (bA ?_)); refine ⟨⟨x.r, x.min, x.max, x.cap, 0, x.ranges.length, rc, ra, x.lazy, x.name, a, c, ob⟩, ⟨rfl, trivial⟩, ⟨rfl, rfl, trivial⟩, M, ?_⟩
    exact ⟨O, c6, ⟨by rw [if_neg (show ¬ x.kind = 7 by omega)]; exact c4, by rw [if_neg (show ¬ x.kind = 7 by omega)]; exact c5, hne⟩, .inl rfl, tE (by omega) (by omega) (by simp only; split <;> first | rfl | omega) (by simp only; split <;> first | rfl | omega) (by simp only; split <;> first | rfl | omega) (by simp only; split <;> first | rfl | omega) (by simp only; split <;> first | rfl | omega) (by simp only; split <;> first | rfl | omega) (by simp only; split <;> first | rfl | omega) (by simp only; (repeat' split) <;> first | rfl | omega) (fun k => by omega) (fun k => by omega) (fun k => by omega) (fun k => by omega)⟩
   subst A
   have hk12 : ¬ (x.kind = 1 ∨ (8 ≤ x.kind ∧ x.kind ≤ 13)) := fun h => by have := hz.2 h; cases this
   refine csr (wel ?_); refine wan (aW rfl (fun h4 => ?_) (fun h4 => ?_))
   ·refine aI (csr (wfl rfl kM rfl cO O rfl (aA (cU rfl rfl) ?_))); refine aB (bC (t := 25) rfl (fun h5 => ?_) (fun h5 => ?_))
    ·refine aJ (aJ (aJ (bQ (wnn (dD rfl ?_))))); refine csr (wan (aH (aE (aN (aE (aE (br1 ?_)))))))
     exact nvy (fun hf => by have f1 := hf.lit1; have f2 := hf.lit2; omega) M
    refine aO (aA (aD rfl kM) (aO (aA (aS rfl cO (aY O rfl)) (aO (aA (fE rfl rfl) ?_))))); refine bK (wnn (aW rfl (fun h6 => ?_) (fun h6 => ?_)))
    ·refine csr (wan (aH (aE (aN (aE (aE (br1 ?_)))))))
     exact nvy (fun hf => by have f1 := hf.lit1; have f2 := hf.lit2; omega) M
    refine aM (aC (aG (aA (aD rfl kM) ?_))); refine bB rfl rfl (by first | rfl | assumption) iD c6 rfl fun j9 g3 c7 => ?_
    try simp only [cH, Nat.reduceAdd] at g3
    refine aQ (aP (bA ?_)); refine ⟨⟨0, x.min, x.max, x.cap, 0, x.ranges.length, rc, ra, x.lazy, x.name, a, c, ob⟩, ⟨rfl, trivial⟩, ⟨rfl, rfl, trivial⟩, (M.step c7 I.mem1), ?_⟩
    exact ⟨(c7.blk O H.nmem1), g3, ⟨by rw [if_neg (show ¬ x.kind = 7 by omega)]; exact (c7.blk c4 B.nmem1), by rw [if_neg (show ¬ x.kind = 7 by omega)]; exact (c5.evo c7 F.own1), hne⟩, .inl rfl, tE (by omega) (by omega) (by simp only; split <;> first | rfl | omega) (by simp only; split <;> first | rfl | omega) (by simp only; split <;> first | rfl | omega) (by simp only; split <;> first | rfl | omega) (by simp only; split <;> first | rfl | omega) (by simp only; split <;> first | rfl | omega) (by simp only; split <;> first | rfl | omega) (by simp only; (repeat' split) <;> first | rfl | omega) (fun _ => by omega) (fun k => by omega) (fun k => by omega) (fun k => by omega)⟩
   refine csr (wel ?_); refine wan (aW rfl (fun h7 => ?_) (fun h7 => ?_))
   ·refine aI (csr (wfl rfl mJ rfl pL O rfl (aL (vs := [_]) KG rfl (DF (RSl.evo RRg.pers M hr0) bl1) rfl ?_))); rintro _ k0 ⟨cb, rfl, hcb, a8⟩; have g4 := M.then a8; refine aA (dR rfl) ?_; refine wnn (fG rfl (fun c8 => ?_) (fun c8 => ?_))
    ·refine csr (wan (aH (aE (aN (aE (aE (br1 ?_)))))))
     exact nvy (fun hf => by rw [hcb.2 (hf.cls (by omega))] at c8; cases c8) g4
    refine aM (aC (aG (aA (aD rfl mJ) ?_))); refine bB rfl rfl (by first | rfl | assumption) JS (a8.blk0 c6) rfl fun k1 g5 c9 => ?_
    try simp only [cH, Nat.reduceAdd] at g5
    refine aQ (aP (bA ?_)); refine ⟨⟨x.r, x.min, x.max, x.cap, 0, 0, 0, none, x.lazy, x.name, a, c, ob⟩, ⟨rfl, trivial⟩, ⟨rfl, rfl, trivial⟩, (g4.step c9 I.mem1), ?_⟩
    exact ⟨(c9.blk (a8.blk0 O) H.nmem1), g5, ⟨by rw [if_neg (show ¬ x.kind = 7 by omega)]; exact (c9.blk (a8.blk0 c4) B.nmem1), by rw [if_neg (show ¬ x.kind = 7 by omega)]; exact ((c5.evo0 a8).evo c9 F.own1), hne⟩, .inl rfl, tE (by omega) (by omega) (by simp only; split <;> first | rfl | omega) (by simp only; split <;> first | rfl | omega) (by simp only; split <;> first | rfl | omega) (by simp only; split <;> first | rfl | omega) (by simp only; split <;> first | rfl | omega) (by simp only; split <;> first | rfl | omega) (by simp only; split <;> first | rfl | omega) (by simp only; (repeat' split) <;> first | rfl | omega) (fun k => by omega) (fun _ => hcb.1 (by simpa using c8)) (fun k => by omega) (fun k => by omega)⟩
   refine aI (mK (α := Bool) (fun z2 => [(38, .bool z2)]) [(0, _), (3, _), (4, _), (5, _), (6, _), (11, _)] (fun z2 wr => Evo [] g2 wr ∧ (z2 = true ↔ (x.kind = 4 ∨ x.kind = 5))) ⟨rfl, rfl, rfl, rfl, rfl, rfl, trivial⟩ ?_ ?_)
   ·refine csr (wel ?_); refine wan (aW rfl (fun a9 => ?_) (fun a9 => ?_))
    ·refine aM (bA ?_); refine ⟨(decide (x.kind = 4)), ⟨rfl, trivial⟩, ⟨rfl, rfl, rfl, rfl, rfl, rfl, trivial⟩, (Evo.refl [] g2), ?_⟩
     simp only [decide_eq_true_eq]; omega
    refine aG (wel ?_); refine bX (aQ (bA ?_)); refine ⟨(decide (x.kind = 5)), ⟨rfl, trivial⟩, ⟨rfl, rfl, rfl, rfl, rfl, rfl, trivial⟩, (Evo.refl [] g2), ?_⟩
    simp only [decide_eq_true_eq]; omega
   rintro z2 k2 ⟨b4, hz2⟩; refine aC ?_; show CW _ _ _ _ [(38, _), (0, _), (3, _), (4, _), (5, _), (6, _), (11, _)] _; have L := M.then b4; have d0 := b4.blk0 c4; have d1 := c5.evo0 b4; have D := b4.blk0 O; have b6 := b4.blk0 c6; refine fG rfl (fun a9 => ?_) (fun a9 => ?_)
   ·subst a9; have hk38 := hz2.1 rfl; refine aG (wfl rfl eU rfl gR D rfl (aA (aZ rfl Try.underlying35 rfl) ?_)); refine aA (CY rfl rfl) ?_; refine bX (aQ (aP (bA ?_))); refine ⟨⟨x.r, x.min, x.max, x.cap, (if 2 < (x.kids.length : Int) then (x.kids.length : Int) else 2), x.ranges.length, rc, ra, x.lazy, x.name, a, c, ob⟩, ⟨rfl, trivial⟩, ⟨rfl, rfl, trivial⟩, L, ?_⟩
    exact ⟨D, b6, ⟨by rw [if_neg (show ¬ x.kind = 7 by omega)]; exact d0, by rw [if_neg (show ¬ x.kind = 7 by omega)]; exact d1, hne⟩, .inl rfl, tE (by omega) (by omega) (by simp only; split <;> first | rfl | omega) (by simp only; split <;> first | rfl | omega) (by simp only; split <;> first | rfl | omega) (by simp only; split <;> first | rfl | omega) (by simp only; split <;> first | rfl | omega) (by simp only; split <;> first | rfl | omega) (by simp only; split <;> first | rfl | omega) (by simp only; (repeat' split) <;> first | rfl | omega) (fun k => by omega) (fun k => by omega) (fun k => by omega) (fun k => by omega)⟩
   subst a9
   have hk38 : ¬ (x.kind = 4 ∨ x.kind = 5) := fun h => by have := hz2.2 h; cases this
   refine csr (wel ?_); refine wan (aW rfl (fun h8 => ?_) (fun h8 => ?_))
   ·refine aI (csr (wfl rfl eK rfl aT D rfl (aA (cU rfl rfl) ?_))); refine aB (bC (t := 50) rfl (fun i1 => ?_) (fun i1 => ?_))
    ·refine aJ (aJ (aJ (bQ (aB (aJ (aJ (aJ (aJ (eZ ?_))))))))); refine eZ ?_; refine eZ ?_; refine eZ ?_; refine eZ ?_; refine eZ ?_; refine eZ ?_; refine eZ ?_; refine eZ ?_; refine eZ ?_; refine aJ (bQ (wnn (dD rfl ?_))); refine csr (wan (aH (aE (aN (aE (aE (br1 ?_)))))))
     exact nvy (fun hf => by have f1 := hf.rep1; omega) L
    refine aO (aA (aD rfl eK) (aO (aA (aS rfl aT (aY D rfl)) (aO (aA (fE rfl rfl) ?_))))); refine bK (aB (bC (t := 55) rfl (fun i2 => ?_) (fun i2 => ?_)))
    ·refine aJ (aJ (aJ (aJ (eZ ?_)))); refine eZ ?_; refine eZ ?_; refine eZ ?_; refine eZ ?_; refine eZ ?_; refine eZ ?_; refine eZ ?_; refine eZ ?_; refine eZ ?_; refine aJ (bQ (wnn (dD rfl ?_))); refine csr (wan (aH (aE (aN (aE (aE (br1 ?_)))))))
     exact nvy (fun hf => by have f1 := hf.rep1; have f2 := hf.rep2; have f3 := hf.rep3; omega) L
    refine aO (aA (aD rfl fL) (aO (aA (aS rfl aT (aY D rfl)) (aO (aA (gE rfl rfl) ?_))))); refine aO (aB (bC (t := 59) rfl (fun i3 => ?_) (fun i3 => ?_)))
    ·refine aO (aA (aD rfl fL) (aO (aA (aS rfl aT (aY D rfl)) (aO (aA (aD rfl eK) (aO (aA (aS rfl aT (aY D rfl)) (aO (aA (cU rfl rfl) ?_))))))))); refine aO (aB (bC (t := 65) rfl (fun i4 => ?_) (fun i4 => ?_)))
     ·refine aJ (aJ (aJ (aO (bQ (aO (bQ (bK (wnn (dD rfl ?_))))))))); refine csr (wan (aH (aE (aN (aE (aE (br1 ?_)))))))
      exact nvy (fun hf => by have f1 := hf.rep1; have f2 := hf.rep2; have f3 := hf.rep3; omega) L
     refine aO (aA (aD rfl fL) (aO (aA (aS rfl aT (aY D rfl)) (aO (aA (fE rfl rfl) ?_))))); refine aO (bK (aO (bQ (bK (wnn (aW rfl (fun i5 => ?_) (fun i5 => ?_)))))))
     ·refine csr (wan (aH (aE (aN (aE (aE (br1 ?_)))))))
      exact nvy (fun hf => by have f1 := hf.rep1; have f2 := hf.rep2; have f3 := hf.rep3; omega) L
     refine aM (aC (csr (aA (aD rfl eK) ?_))); refine bB rfl rfl (by first | rfl | assumption) bY b6 rfl fun k3 g6 d2 => ?_
     try simp only [cH, Nat.reduceAdd] at g6
     refine aA (aD rfl fL) ?_; refine bB rfl rfl (by first | rfl | assumption) bY g6 rfl fun k4 g7 d3 => ?_
     try simp only [cH, Nat.reduceAdd] at g7
     refine aA (aD rfl mI) ?_; refine bB rfl rfl (by first | rfl | assumption) fP g7 rfl fun k5 g8 d4 => ?_
     try simp only [cH, Nat.reduceAdd] at g8
     refine wnn (aG (bX (aQ (aP (bA ?_))))); refine ⟨⟨x.r, 0, 0, x.cap, 1, x.ranges.length, rc, ra, false, x.name, a, c, ob⟩, ⟨rfl, trivial⟩, ⟨rfl, rfl, trivial⟩, (((L.step d2 I.mem1).step d3 I.mem1).step d4 I.mem1), ?_⟩
     exact ⟨(d4.blk (d3.blk (d2.blk D H.nmem1) H.nmem1) H.nmem1), g8, ⟨by rw [if_neg (show ¬ x.kind = 7 by omega)]; exact (d4.blk (d3.blk (d2.blk d0 B.nmem1) B.nmem1) B.nmem1), by rw [if_neg (show ¬ x.kind = 7 by omega)]; exact (((d1.evo d2 F.own1).evo d3 F.own1).evo d4 F.own1), hne⟩, .inl rfl, tE (by omega) (by omega) (by simp only; split <;> first | rfl | omega) (by simp only; split <;> first | rfl | omega) (by simp only; split <;> first | rfl | omega) (by simp only; split <;> first | rfl | omega) (by simp only; split <;> first | rfl | omega) (by simp only; split <;> first | rfl | omega) (by simp only; split <;> first | rfl | omega) (by simp only; (repeat' split) <;> first | rfl | omega) (fun k => by omega) (fun k => by omega) (fun _ => by omega) (fun k => by omega)⟩
    refine aJ (aJ (aJ (aJ (aJ (aJ (eZ ?_)))))); refine eZ ?_; refine eZ ?_; refine aJ (aO (bK (bK (wnn (cK rfl ?_))))); refine aM (aC (csr (aA (aD rfl eK) ?_))); refine bB rfl rfl (by first | rfl | assumption) bY b6 rfl fun i9 e6 V => ?_
    try simp only [cH, Nat.reduceAdd] at e6
    refine aA (aD rfl fL) ?_; refine bB rfl rfl (by first | rfl | assumption) bY e6 rfl fun j0 e7 a0 => ?_
    try simp only [cH, Nat.reduceAdd] at e7
    refine aA (aD rfl mI) ?_; refine bB rfl rfl (by first | rfl | assumption) fP e7 rfl fun j1 e8 a1 => ?_
    try simp only [cH, Nat.reduceAdd] at e8
    refine wnn (aG (bX (aQ (aP (bA ?_))))); refine ⟨⟨x.r, 0, 0, x.cap, 1, x.ranges.length, rc, ra, false, x.name, a, c, ob⟩, ⟨rfl, trivial⟩, ⟨rfl, rfl, trivial⟩, (((L.step V I.mem1).step a0 I.mem1).step a1 I.mem1), ?_⟩
    exact ⟨(a1.blk (a0.blk (V.blk D H.nmem1) H.nmem1) H.nmem1), e8, ⟨by rw [if_neg (show ¬ x.kind = 7 by omega)]; exact (a1.blk (a0.blk (V.blk d0 B.nmem1) B.nmem1) B.nmem1), by rw [if_neg (show ¬ x.kind = 7 by omega)]; exact (((d1.evo V F.own1).evo a0 F.own1).evo a1 F.own1), hne⟩, .inl rfl, tE (by omega) (by omega) (by simp only; split <;> first | rfl | omega) (by simp only; split <;> first | rfl | omega) (by simp only; split <;> first | rfl | omega) (by simp only; split <;> first | rfl | omega) (by simp only; split <;> first | rfl | omega) (by simp only; split <;> first | rfl | omega) (by simp only; split <;> first | rfl | omega) (by simp only; (repeat' split) <;> first | rfl | omega) (fun k => by omega) (fun k => by omega) (fun _ => by omega) (fun k => by omega)⟩
   refine csr (wel ?_); refine wan (aW rfl (fun i6 => ?_) (fun i6 => ?_))
   ·refine aI (csr (aB (wfl rfl mH rfl aT D rfl (wfl rfl rS rfl dC D rfl ?_)))); have hszc := (L).size; have hlt3 := Lt.blk D; have hlt5 := Lt.blk b6; refine aL (vs := [_, _, _]) KF rfl (UA ⟨d0, d1, hne⟩ hl bl2) rfl ?_; rintro _ j2 ⟨gb, rfl, hgb, d5, hgs⟩; have e9 := L.step d5 (fun y hy => .inl hy); have g9 := d5.blk D (nK e5.symm (Apart.new (Lt.own hO) f7).symm); refine aA (dR rfl) ?_; refine wnn (fG rfl (fun b7 => ?_) (fun b7 => ?_))
    ·refine csr (wan (aH (aE (aN (aE (aE (br1 ?_)))))))
     exact nv2 (fun hh => by rw [hgb.2 (hh.2 (by omega))] at b7; cases b7) e9
    obtain ⟨a2, c2, ob2, b8, hob2⟩ := hgs (by simpa using b7); have hgb2 := hgb.1 (by simpa using b7); have e5 := fO F.symm hlt5 hob2; refine aM (aC (csr (aA (aD rfl mH) ?_))); refine bB rfl rfl (by first | rfl | assumption) bY (d5.blk b6 (nK B.symm F.symm)) rfl fun j3 f0 a3 => ?_
    try simp only [cH, Nat.reduceAdd] at f0
    refine aA (aD rfl rS) ?_; refine bB rfl rfl (by first | rfl | assumption) lO f0 rfl fun j4 f5 a4 => ?_
    try simp only [cH, Nat.reduceAdd] at f5
    refine wnn (aG (bX (aQ (aP (bA ?_))))); refine ⟨⟨x.r, x.min, x.max, 0, 1, x.ranges.length, rc, ra, x.lazy, ByteArray.empty, a2, c2, ob2⟩, ⟨rfl, trivial⟩, ⟨rfl, rfl, trivial⟩, ((e9.step a3 I.mem1).step a4 I.mem1), ?_⟩; have hob3 : ob2 = ob ∨ ∃ g, ob2 = some g ∧ w.heap.size ≤ g := hob2.imp id (fun ⟨g, h1, h2⟩ => ⟨g, h1, Nat.le_trans hszc h2⟩)
    exact ⟨(a4.blk (a3.blk g9 H.nmem1) H.nmem1), f5, ⟨by rw [if_pos (show x.kind = 7 by omega)]; exact (a4.blk (a3.blk b8.blk B.nmem1) B.nmem1), by rw [if_pos (show x.kind = 7 by omega)]; exact ((b8.own.evo a3 e5.symm.own1).evo a4 e5.symm.own1), b8.ne⟩, hob3, tE (by omega) (by omega) (by simp only; split <;> first | rfl | omega) (by simp only; split <;> first | rfl | omega) (by simp only; split <;> first | rfl | omega) (by simp only; split <;> first | rfl | omega) (by simp only; split <;> first | rfl | omega) (by simp only; split <;> first | rfl | omega) (by simp only; split <;> first | rfl | omega) (by simp only; (repeat' split) <;> first | rfl | omega) (fun k => by omega) (fun k => by omega) (fun k => by omega) (fun _ => hgb2)⟩
   refine csr (wan (aH (aN (aE (aE (br1 ?_))))))
   exact nvy (fun hf => by have f1 := hf.kind1; have f2 := hf.kind2; omega) L
  rintro ⟨r, mn, mx, cp, kd, rn, rc1, ra1, lz, nm, a2, c2, ob2⟩ j5 ⟨J, ⟨hb3, hb5, b8, hob3, hPL⟩⟩; refine aC ?_; show CW _ _ _ _ [(6, .int .i64 kd), (3, _), (5, _)] _
  try dsimp only at hb3 hb5 b8 hob3 hPL
  refine csr (wfl rfl eU rfl gR hb3 rfl (aA (aZ rfl Try.underlying35 rfl) ?_)); refine aB (wel ?_); refine aB (bC (t := 91) rfl (fun e3 => ?_) (fun e3 => ?_))
  ·refine aO (aA (aD rfl kM) (aO (aA (aS rfl cO (aY hb5 rfl)) (aO (wel ?_))))); refine bQ (aB (bC (t := 96) rfl (fun e4 => ?_) (fun e4 => ?_)))
   ·refine aO (aA (aD rfl mJ) (aO (aA (aS rfl pL (aY hb5 rfl)) (aO (aA (aZ rfl Try.underlying34 rfl) ?_))))); refine aO (wel ?_); refine bQ (aB (bC (t := 102) rfl (fun d6 => ?_) (fun d6 => ?_)))
    ·refine aO (aA (aD rfl eK) (aO (aA (aS rfl aT (aY hb5 rfl)) (aO (wel ?_))))); refine bQ (aB (bC (t := 107) rfl (fun d7 => ?_) (fun d7 => ?_)))
     ·refine aO (aA (aD rfl fL) (aO (aA (aS rfl aT (aY hb5 rfl)) (aO (wel ?_))))); refine bQ (aB (bC (t := 112) rfl (fun d8 => ?_) (fun d8 => ?_)))
      ·refine aO (aA (aD rfl mI) (aO (aA (aS rfl hD (aY hb5 rfl)) (aO (aA (dR rfl) ?_))))); refine bQ (aB (jM (t := 117) rfl (fun a5 => ?_) (fun a5 => ?_)))
       ·refine aO (aA (aD rfl mH) (aO (aA (aS rfl aT (aY hb5 rfl)) (aO (wel ?_))))); refine bQ (aB (bC (t := 122) rfl (fun d9 => ?_) (fun d9 => ?_)))
        ·refine aO (aA (aD rfl rS) (aO (aA (aS rfl dC (aY hb5 rfl)) (aO (aA (gK rfl rfl) ?_))))); refine bQ (wan (aH (br1 ?_))); refine ⟨_, rfl, ?_, J, fun _ => ⟨a2, c2, ob2, b8, hob3⟩⟩; simp only [decide_eq_true_eq]; exact ⟨fun h9 => hPL.1 ⟨e3, e4, d6, d7, d8, by simpa using a5, d9, h9⟩, fun hh => (hPL.2 hh).2.2.2.2.2.2.2⟩
        refine aJ (aJ (aJ (bK (wan (aH (br1 ?_)))))); exact nv2 (fun hh => d9 (hPL.2 hh).2.2.2.2.2.2.1) J
       refine aJ (aJ (aJ (bK (aB (aJ (aJ (aJ (bK (wan (aH (br1 ?_)))))))))))
       exact nv2 (fun hh => by have h9 : lz = false := (hPL.2 hh).2.2.2.2.2.1; rw [h9] at a5; cases a5) J
      refine aJ (aJ (aJ (bK (aB (aJ (aJ (aJ (bK (aB (aJ (aJ (aJ (bK (bX ?_)))))))))))))); refine wnn (aH (br1 ?_)); exact nv2 (fun hh => d8 (hPL.2 hh).2.2.2.2.1) J
     refine aJ (aJ (aJ (bK (aB (aJ (aJ (aJ (bK (aB (aJ (aJ (aJ (bK (aB ?_)))))))))))))); refine aJ (aJ (aJ (bK (wan (aH (br1 ?_)))))); exact nv2 (fun hh => d7 (hPL.2 hh).2.2.2.1) J
    refine aJ (aJ (aJ (bK (aB (aJ (aJ (aJ (bK (aB (aJ (aJ (aJ (bK (aB ?_)))))))))))))); refine aJ (aJ (aJ (bK (aB (aJ (aJ (aJ (bK (wan (aH (br1 ?_))))))))))); exact nv2 (fun hh => d6 (hPL.2 hh).2.2.1) J
   refine aJ (aJ (aJ (aJ (bK (aB (aJ (aJ (aJ (bK (aB (aJ (aJ (aJ (bK ?_)))))))))))))); refine aB (aJ (aJ (aJ (bK (aB (aJ (aJ (aJ (bK (aB (aJ (aJ (aJ (bK ?_)))))))))))))); refine wan (aH (br1 ?_)); exact nv2 (fun hh => e4 (hPL.2 hh).2.1) J
  refine aJ (aJ (aJ (bK (aB (aJ (aJ (aJ (aJ (bK (aB (aJ (aJ (aJ (bK ?_)))))))))))))); refine aB (aJ (aJ (aJ (bK (aB (aJ (aJ (aJ (bK (aB (aJ (aJ (aJ (bK ?_)))))))))))))); refine aB (aJ (aJ (aJ (bK (wan (aH (br1 ?_))))))); exact nv2 (fun hh => e3 (hPL.2 hh).1) J
theorem rM : cX Try.prog 90 0 = some 0 := by kernel_rfl
theorem qG : dY Try.prog 34 := ⟨_, Try.func34, by kernel_rfl, by kernel_rfl⟩
theorem KM : dY Try.prog 39 := ⟨_, Try.func39, by kernel_rfl, by kernel_rfl⟩
theorem KL : dY Try.prog 40 := ⟨_, Try.func40, by kernel_rfl, by kernel_rfl⟩
def HH (st : St) : Prop := st.2.length ≤ st.1 ∧ st.1 ≤ 8194
theorem RRx.get {n : Nat} {X : List Nat} {w : World} {vs : List Value} {x : Rx} (h : RRx n X w vs x) : ∃ m ra rc ka kc, n = m + 1 ∧ vs = [iv x.kind, .int .i32 x.r, .slice ra x.ranges.length rc, iv x.min, iv x.max, .bool x.lazy, iv x.cap, .string x.name, .slice ka x.kids.length kc] ∧
    RSl 2 RRg X w (.slice ra x.ranges.length rc) x.ranges ∧ RSl 9 (RRx m) X w (.slice ka x.kids.length kc) x.kids ∧ x.ranges.length ≤ 140737488351232 ∧ x.name.size ≤ 140737488351232 ∧ x.kids.length ≤ 140737488351232 := by
  cases n with
  | zero => exact h.elim
  | succ n =>
    obtain ⟨vr, vk, h1, ⟨ra, rc, rfl, h2⟩, ⟨ka, kc, rfl, h3⟩, h4⟩ := h
    exact ⟨n, ra, rc, ka, kc, rfl, h1, ⟨ra, rc, rfl, h2⟩, ⟨ka, kc, rfl, h3⟩, h4⟩
set_option maxHeartbeats 4000000 in
theorem PD {n : Nat} (ih : ∀ (w : World) (jb : Nat) (st : St) (a : Option Addr) (c : Nat) (ob : Option Nat) (vs : List Value) (t : Rx) (b : Int), JAt w 90 jb st a c ob → RRx n (jb :: ob.toList) w vs t → HH st → 0 ≤ b → b ≤ 251 →
      Calls Try.prog 34 #[.pointer (some ⟨jb, 0, none⟩), .agg vs.toArray, .int .i64 b] w (Ret fun v w' => ∃ r, v = .bool r ∧ r = (t.fine b st).isSome ∧ Evo (jb :: ob.toList) w w' ∧ ∀ st', t.fine b st = some st' → HH st' ∧ ∃ a' c' ob', JAt w' 90 jb st' a' c' ob' ∧ ∀ g, ob' = some g → g ∈ ob.toList ∨ w.heap.size ≤ g))
    {w : World} {jb : Nat} {st : St} {a : Option Addr} {c : Nat} {ob : Option Nat} {vs : List Value} {t : Rx} {b : Int} (hJ : JAt w 90 jb st a c ob) (hx : RRx (n + 1) (jb :: ob.toList) w vs t) (hst : HH st) (hb0 : 0 ≤ b) (hb1 : b ≤ 251) :
      Calls Try.prog 34 #[.pointer (some ⟨jb, 0, none⟩), .agg vs.toArray, .int .i64 b] w (Ret fun v w' => ∃ r, v = .bool r ∧ r = (t.fine b st).isSome ∧ Evo (jb :: ob.toList) w w' ∧ ∀ st', t.fine b st = some st' → HH st' ∧ ∃ a' c' ob', JAt w' 90 jb st' a' c' ob' ∧ ∀ g, ob' = some g → g ∈ ob.toList ∨ w.heap.size ≤ g) := by
  obtain ⟨hB, hO, hne⟩ := hJ
  have hAJN : Apart (some jb) ob := fun g h1 h2 => by cases h1; exact hne jb h2 rfl
  have hlt := eM hB; have hst1 := hst.1; have hst2 := hst.2
  have hXlt : ∀ y, y ∈ jb :: ob.toList → y < w.heap.size := fun y hy => by
    rcases List.mem_cons.1 hy with h | h
    · rw [h]; exact hlt
    · have : ob = some y := by simpa using h
      subst this; exact hO.lt
  have hx0 := hx; obtain ⟨m, ra, rc, ka, kc, hm, rfl, hrg, hk, bl1, bl2, bl3⟩ := hx.get
  obtain rfl : m = n := by omega
  obtain ⟨_, _, hke, hkc, e1⟩ := hk; cases hke; refine bE (N := 57) Try.func34 rfl rfl rfl ?_; refine csr (gD rfl rfl fun b4 w1 e2 F a9 => ?_); have e3 := F; have b5 := Apart.new (Lt.blk hB) F; have d3 := Apart.new (Lt.own hO) F; refine wan (csr (aB (aA (aF rfl) (wfl rfl rM rfl aT (a9.blk0 hB) rfl ?_)))); refine aA (aK rfl rfl (by omega) (by omega)) ?_; refine aA (aF rfl) (aA (aD rfl rM) ?_); refine bB rfl rfl (by first | rfl | assumption) bY (a9.blk0 hB) rfl fun b6 a7 a8 => ?_
  have d4 := ((Evo.refl (jb :: ob.toList) w).then a9).step a8 (fun y hy => .inl (by rw [List.mem_singleton.1 hy]; exact List.mem_cons_self ..))
  have b7 := a8.blk e2 b5.symm.nmem1
  try simp only [cH, Nat.reduceAdd] at a7
  refine wnn (aI (mK (α := Int) (fun z => [(2, .int .i64 z)]) [(0, _), (4, _), (6, _)] (fun z wr => Evo [] b6 wr ∧ (z = if t.kind = 7 then b + 1 else b)) ⟨rfl, rfl, rfl, trivial⟩ ?_ ?_))
  ·refine csr (wfl rfl jL rfl aT b7 rfl (wel ?_)); refine wnn (aW rfl (fun d5 => ?_) (fun d5 => ?_))
   ·refine aG (aB ?_); refine aA (aK rfl rfl (by omega) (by omega)) ?_; refine bX (aQ (bA ?_)); refine ⟨(b + 1), ⟨rfl, trivial⟩, ⟨rfl, rfl, rfl, trivial⟩, (Evo.refl [] b6), ?_⟩; rw [if_pos (by assumption)]
   refine aM (bA ?_); refine ⟨b, ⟨rfl, trivial⟩, ⟨rfl, rfl, rfl, trivial⟩, (Evo.refl [] b6), ?_⟩; rw [if_neg (by assumption)]
  rintro z e7 ⟨J, hz⟩; refine aC ?_; show CW _ _ _ _ [(2, _), (0, _), (4, _), (6, _)] _; have B := d4.then J; have L := J.blk0 b7; refine aI (csr (aB (aA (aF rfl) (wfl rfl rM rfl aT (J.blk0 a7) rfl (aA (fE rfl rfl) ?_))))); refine aB (bC (t := 27) rfl (fun d6 => ?_) (fun d6 => ?_))
  ·refine aJ (aJ (bQ (aB (aJ (aJ ?_))))); have hlt4 := Lt.blk L; have hszc := (B).size; refine aJ (aJ (bQ (wnn (dD rfl ?_)))); refine csr (wan (aH (aE (br1 ?_))))
   have hno := uC (x := t) (b := b) (st := st) (fun h => by have := h.1; omega)
   exact ⟨false, rfl, by rw [hno]; rfl, B, fun st' h => by rw [hno] at h; cases h⟩
  refine aO (aB (aO (aA (fE rfl rfl) ?_))); refine bK (aB (bC (t := 31) rfl (fun D => ?_) (fun D => ?_)))
  ·refine aJ (aJ ?_); have hlt4 := Lt.blk L; have hszc := (B).size; refine aJ (aJ (bQ (wnn (dD rfl ?_)))); refine csr (wan (aH (aE (br1 ?_))))
   have hno := uC (x := t) (b := b) (st := st) (fun h => by have := h.2.1; rw [← hz] at this; omega)
   exact ⟨false, rfl, by rw [hno]; rfl, B, fun st' h => by rw [hno] at h; cases h⟩
  refine aO (aB (aO (aA (bW rfl bZ aU L rfl) ?_))); have hlt4 := Lt.blk L; have hszc := (B).size; refine aO ?_
  refine aL (vs := [_, _]) KM rfl (IY (st := (st.1 + 1, st.2)) ⟨(J.blk0 a7), (((hO.evo0 a9).evo a8 hAJN.symm.own1).evo0 J), hne⟩ (RRx.pers _ _ _ _ _ _ B hx0) (by simp only; omega)) rfl ?_
  rintro _ e8 ⟨fb, rfl, hfb, b9, hfs⟩; have c0 := B.step b9 (fun y hy => .inl hy); have c1 := b9.blk L (nK b5.symm d3.symm); refine aO (aA (dR rfl) ?_); refine bK (wnn (fG rfl (fun M => ?_) (fun M => ?_)))
  ·refine csr (wan (aH (aE (br1 ?_))))
   have hno := uC (x := t) (b := b) (st := st) (fun h => by have := hfb.2 ⟨h.2.2.1, h.2.2.2⟩; rw [this] at M; cases M)
   exact ⟨false, rfl, by rw [hno]; rfl, c0, fun st' h => by rw [hno] at h; cases h⟩
  obtain ⟨a2, c2, ob2, c4, hob2⟩ := hfs (by simpa using M); have hfb2 := hfb.1 (by simpa using M); have e4 := fO d3.symm hlt4 hob2
  have hfin0 := mC (x := t) (b := b) (st := st) ⟨by omega, by rw [← hz]; omega, hfb2.1, hfb2.2⟩
  have hst9 : HH (st.1 + 1, if t.kind = 7 then st.2 ++ [t.name] else st.2) := ⟨by show (if t.kind = 7 then st.2 ++ [t.name] else st.2).length ≤ st.1 + 1; split; (rw [List.length_append]; simp; omega); omega, by show st.1 + 1 ≤ 8194; omega⟩
  have hg9 : ∀ g, ob2 = some g → g ∈ ob.toList ∨ w.heap.size ≤ g := fun g hg => by rcases hob2 with h | ⟨g', h1, h2⟩; left; rw [← h, hg]; simp; right; rw [hg] at h1; cases h1; exact Nat.le_trans hszc h2
  refine aM (aC (aI (csr (wfl rfl eU rfl gR c1 rfl (aA (aZ rfl Try.underlying35 rfl) ?_))))); refine aB (wnn (bJ ?_))
  refine dA (α := Nat × St × Option Addr × Nat × Option Nat) ((0, (st.1 + 1, if t.kind = 7 then st.2 ++ [t.name] else st.2), a2, c2, ob2)) (fun x => [(40, .int .i64 (x.1 : Nat))]) [(0, _), (2, _), (4, _), (38, _), (39, _)] (fun x wr => Evo (jb :: ob.toList) w wr ∧ (x.1 ≤ t.kids.length ∧ HH x.2.1 ∧ JAt wr 90 jb x.2.1 x.2.2.1 x.2.2.2.1 x.2.2.2.2 ∧ t.fine b st = dN (t.kids.drop x.1) t.kind z x.2.1 ∧ (∀ g, x.2.2.2.2 = some g → g ∈ ob.toList ∨ w.heap.size ≤ g) ∧ wr.heap[b4]? = some (.cells #[iv t.kind, .int .i32 t.r, .slice ra t.ranges.length rc, iv t.min, iv t.max, .bool t.lazy, iv t.cap, .string t.name, .slice ka t.kids.length kc] 37 (0, 0)) ∧ b4 ∉ jb :: x.2.2.2.2.toList)) (fun x => t.kids.length - x.1) ⟨rfl, trivial⟩ ⟨rfl, rfl, rfl, rfl, rfl, trivial⟩ ⟨c0, ⟨Nat.zero_le _, hst9, ⟨c4.blk, c4.own, c4.ne⟩, by rw [hfin0, ← hz]; rfl, hg9, c1, nK b5.symm e4⟩⟩ ?_
  rintro ⟨j, s, a', c', o'⟩ wr27 ⟨a0, ⟨hj, hsok, ⟨hB', hO', hne'⟩, hfin, hgo, c5, hb4o⟩⟩; show CW _ _ _ _ [(40, .int .i64 (j : Nat)), (0, _), (2, _), (4, _), (38, _), (39, _)] _
  try dsimp only at hj hsok hB' hO' hne' hfin hgo c5 hb4o
  have hAJN' : Apart (some jb) o' := fun g h1 h2 => by cases h1; exact hne' jb h2 rfl
  have hA4J : Apart (some b4) (some jb) := fun g h1 h2 => by cases h1; cases h2; exact hb4o (by simp)
  have hA4N : Apart (some b4) o' := fun g h1 h2 => by cases h1; exact hb4o (by simp [h2])
  have hyo : ∀ y, y ∈ jb :: o'.toList → y ∈ jb :: ob.toList ∨ w.heap.size ≤ y := fun y hy => by rcases List.mem_cons.1 hy with h | h; left; rw [h]; simp; rcases hgo y (by simpa using h) with h1 | h1; left; exact List.mem_cons_of_mem _ h1; exact .inr h1
  skip
  refine csr (aA (cU rfl rfl) ?_); refine wnn (aI (aW rfl (fun d7 => ?_) (fun d7 => ?_)))
  ·have hj' : j < t.kids.length := by omega
   obtain ⟨b1, o1, vs1, ha1, hb1, hvl1, e5, hrk⟩ := e1 j hj'; obtain ⟨m1, ra1, rc1, ka1, kc1, rfl, rfl, -⟩ := id hrk.get; refine aM (aC (aI (bJ (csr ?_))))
   refine aA (cG (n := j) (by rw [ha1]; rfl) rfl dV (by omega)) ?_
   refine aA (cY rfl bZ aU (vs := [_, _, _, _, _, _, _, _, _]) rfl (e5.evo a0 hb1)) ?_; refine cL rfl eN fun b8 e9 d8 D a1 => ?_; have e6 := D; refine aV rfl rfl aU d8 rfl rfl ⟨by first | rfl | assumption, by first | rfl | assumption, by first | rfl | assumption, by first | rfl | assumption, by first | rfl | assumption, by first | rfl | assumption, by first | rfl | assumption, by first | rfl | assumption, by first | rfl | assumption, trivial⟩ fun f0 a4 a5 => ?_; have c6 := a5.blk (a1.blk0 c5) (Apart.new (Lt.blk c5) D).nmem1
   try simp only [cH, Nat.reduceAdd] at a4
   refine wnn (csr (wan (aI (csr (wfl rfl jL rfl aT a4 rfl (wfl rfl jL rfl aT c6 rfl (aL (vs := [_, _]) KL rfl (DJ t.kids[j].kind t.kind) rfl ?_))))))); rintro _ f5 ⟨rfl, H⟩; have I := ((a0.then a1).step a5 (Ge.new a0 D).mem1).then H; have c7 := H.blk0 (a5.blk (a1.blk0 hB') (Apart.new (Lt.blk hB') D).nmem1); have c8 := ((hO'.evo0 a1).evo a5 (Apart.new (Lt.own hO') D).own1).evo0 H; have a6 := H.blk0 c6; refine wnn (aW rfl (fun O => ?_) (fun O => ?_))
   ·refine aG (wan (csr (aB (aA (bW rfl bZ aU (H.blk0 a4) rfl) (aB (aB ?_)))))); refine aA (aK rfl rfl (by omega) (by omega)) ?_; have hsz54 := (I).size; have hlb4 := eM a6; refine aL (vs := [_, _, _]) qG rfl (ih _ jb s a' c' o' _ t.kids[j] _ ⟨c7, c8, hne'⟩ (RRx.step hrk I hyo hXlt) hsok (by omega) (by omega)) rfl ?_; rintro _ f6 ⟨r, rfl, hr, c9, U⟩; have d0 := I.step c9 (hyo); have d9 := c9.blk a6 (hb4o); refine aA (dR rfl) ?_; refine wnn (fG rfl (fun A => ?_) (fun A => ?_))
    ·refine csr (wan (aH (aN (aE (aE (aN (aE (br1 ?_)))))))); rw [show (z + 1 : Int) = z + (if Brk t.kids[j].kind t.kind then 1 else 0) from by rw [if_pos O]] at hr U
     have hn : t.kids[j].fine (z + if Brk t.kids[j].kind t.kind then 1 else 0) s = none := by
       cases h : t.kids[j].fine (z + if Brk t.kids[j].kind t.kind then 1 else 0) s with
       | none => rfl
       | some s3 => rw [h] at hr; simp at hr; rw [hr] at A; cases A
     have hno : t.fine b st = none := by rw [hfin, oF hj', hn]
     exact ⟨false, rfl, by rw [hno]; rfl, d0, fun st' h => by rw [hno] at h; cases h⟩
    rw [show (z + 1 : Int) = z + (if Brk t.kids[j].kind t.kind then 1 else 0) from by rw [if_pos O]] at hr U
    obtain ⟨s3, F⟩ := Option.isSome_iff_exists.1 (show (t.kids[j].fine _ s).isSome = true by rw [← hr]; simpa using A)
    obtain ⟨hsok3, a3, c3, o3, V, ho3⟩ := U s3 F
    have hg3 : ∀ g, o3 = some g → g ∈ ob.toList ∨ w.heap.size ≤ g := fun g hg => by rcases ho3 g hg with h | h; exact hgo g (by simpa using h); exact .inr (Nat.le_trans hsz54 h)
    have hb43 : b4 ∉ jb :: o3.toList := fun hm => by rcases List.mem_cons.1 hm with h | h; exact hb4o (by rw [h]; simp); rcases ho3 b4 (by simpa using h) with h1 | h1; exact hb4o (List.mem_cons_of_mem _ h1); omega
    refine aM (aP (aC (aG ?_))); refine aA (aK rfl rfl (by omega) (by omega)) ?_; refine aB (aQ (bA ?_)); refine ⟨(j + 1, s3, a3, c3, o3), ?_, ⟨rfl, trivial⟩, ⟨rfl, rfl, rfl, rfl, rfl, trivial⟩, d0, ?_⟩
    · (try dsimp only); omega
    try dsimp only
    refine ⟨by omega, hsok3, ⟨V.blk, V.own, V.ne⟩, ?_, hg3, d9, hb43⟩; rw [hfin, oF hj', F]
   refine aM (aC (csr (aB (aA (bW rfl bZ aU (H.blk0 a4) rfl) (aB (aB ?_)))))); refine aA (aK rfl rfl (by omega) (by omega)) ?_; have hsz54 := (I).size; have hlb4 := eM a6; refine aL (vs := [_, _, _]) qG rfl (ih _ jb s a' c' o' _ t.kids[j] _ ⟨c7, c8, hne'⟩ (RRx.step hrk I hyo hXlt) hsok (by omega) (by omega)) rfl ?_; rintro _ f7 ⟨r, rfl, hr, d1, U⟩; have d2 := I.step d1 (hyo); have e0 := d1.blk a6 (hb4o); refine aA (dR rfl) ?_; refine wnn (fG rfl (fun A => ?_) (fun A => ?_))
   ·refine csr (wan (aH (aN (aE (aE (aN (aE (br1 ?_)))))))); rw [show (z + 0 : Int) = z + (if Brk t.kids[j].kind t.kind then 1 else 0) from by rw [if_neg O]] at hr U
    have hn : t.kids[j].fine (z + if Brk t.kids[j].kind t.kind then 1 else 0) s = none := by
      cases h : t.kids[j].fine (z + if Brk t.kids[j].kind t.kind then 1 else 0) s with
      | none => rfl
      | some s3 => rw [h] at hr; simp at hr; rw [hr] at A; cases A
    have hno : t.fine b st = none := by rw [hfin, oF hj', hn]
    exact ⟨false, rfl, by rw [hno]; rfl, d2, fun st' h => by rw [hno] at h; cases h⟩
   rw [show (z + 0 : Int) = z + (if Brk t.kids[j].kind t.kind then 1 else 0) from by rw [if_neg O]] at hr U
   obtain ⟨s3, F⟩ := Option.isSome_iff_exists.1 (show (t.kids[j].fine _ s).isSome = true by rw [← hr]; simpa using A)
   obtain ⟨hsok3, a3, c3, o3, V, ho3⟩ := U s3 F
   have hg3 : ∀ g, o3 = some g → g ∈ ob.toList ∨ w.heap.size ≤ g := fun g hg => by rcases ho3 g hg with h | h; exact hgo g (by simpa using h); exact .inr (Nat.le_trans hsz54 h)
   have hb43 : b4 ∉ jb :: o3.toList := fun hm => by rcases List.mem_cons.1 hm with h | h; exact hb4o (by rw [h]; simp); rcases ho3 b4 (by simpa using h) with h1 | h1; exact hb4o (List.mem_cons_of_mem _ h1); omega
   refine aM (aP (aC (aG ?_))); refine aA (aK rfl rfl (by omega) (by omega)) ?_; refine aB (aQ (bA ?_)); refine ⟨(j + 1, s3, a3, c3, o3), ?_, ⟨rfl, trivial⟩, ⟨rfl, rfl, rfl, rfl, rfl, trivial⟩, d2, ?_⟩
   · (try dsimp only); omega
   try dsimp only
   refine ⟨by omega, hsok3, ⟨V.blk, V.own, V.ne⟩, ?_, hg3, e0, hb43⟩; rw [hfin, oF hj', F]
  refine cN (bL (bL (cM (aC ?_)))); refine csr (wan (aH (br1 ?_)))
  have hn : t.fine b st = some s := by rw [hfin, CU (by omega)]
  exact ⟨true, rfl, by rw [hn]; rfl, a0, fun st' h => by rw [hn] at h; cases h; exact ⟨hsok, a', c', o', ⟨hB', hO', hne'⟩, hgo⟩⟩
theorem yN : mN Try.prog 90 = some #[.int .i64 0, .slice none 0 0] := by kernel_rfl
theorem CS : ∀ {n : Nat} {w : World} {jb : Nat} {st : St} {a : Option Addr} {c : Nat} {ob : Option Nat} {vs : List Value} {t : Rx} {b : Int}, JAt w 90 jb st a c ob → RRx n (jb :: ob.toList) w vs t → HH st → 0 ≤ b → b ≤ 251 →
      Calls Try.prog 34 #[.pointer (some ⟨jb, 0, none⟩), .agg vs.toArray, .int .i64 b] w (Ret fun v w' => ∃ r, v = .bool r ∧ r = (t.fine b st).isSome ∧ Evo (jb :: ob.toList) w w' ∧ ∀ st', t.fine b st = some st' → HH st' ∧ ∃ a' c' ob', JAt w' 90 jb st' a' c' ob' ∧ ∀ g, ob' = some g → g ∈ ob.toList ∨ w.heap.size ≤ g)
  | 0, w, jb, st, a, c, ob, vs, t, b, hJ, hx, hs, h0, h1 => hx.elim
  | n + 1, w, jb, st, a, c, ob, vs, t, b, hJ, hx, hs, h0, h1 => PD (n := n) (fun w jb st a c ob vs t b hJ hx hs h0 h1 => CS hJ hx hs h0 h1) hJ hx hs h0 h1
theorem JAt.new {w : World} {jb : Nat} {T : TypeId} (h : w.heap[jb]? = some (.cells #[iv 0, .slice none 0 0] T (0, 0))) : JAt w T jb (0, []) none 0 none := ⟨h, OwnS.nil _ _ _, fun g hg => by cases hg⟩
theorem QE {n : Nat} {w : World} {vs : List Value} {t : Rx} (hx : RRx n [] w vs t) :
    Calls Try.prog 28 #[.agg vs.toArray] w (Ret fun v w' => ∃ r, v = .bool r ∧ (r = true ↔ t.Ok) ∧ Evo [] w w') := by
  have hx0 := hx; obtain ⟨m, ra, rc, ka, kc, hm, rfl, hrg, hk, bl1, bl2, bl3⟩ := hx.get; refine bE (N := 6) Try.func28 rfl rfl rfl ?_; refine csr (gD rfl rfl fun b1 w2 H M I => ?_); have D := (Evo.refl [] w).then I; refine wan (csr (cL rfl yN fun jb w8 J A B => ?_)); have L := A; refine aA (bW rfl bZ aU (B.blk0 H) rfl) ?_; refine aL (vs := [_, _, _]) qG rfl (CS (st := (0, [])) (JAt.new J) (RRx.step hx0 (D.then B) (Ge.new D A).mem1 (fun b hb => by cases hb)) ⟨Nat.le_refl _, by decide⟩ (by decide) (by decide)) rfl ?_; rintro _ O ⟨r, rfl, hr, F, -⟩; refine wan (aH (br1 ?_))
  exact ⟨r, rfl, by rw [hr, Option.isSome_iff_exists]; rfl, ((D.then B).step F ((Ge.new D A).mem1))⟩
end Go.Proofs.Ytidpigbinpaaeaa
namespace Go.Proofs.Ytidpigbinpaaeaa
open Go.RowKit Go.W
inductive Good : Rx → Prop
  | mk {x : Rx} : NodeP x → (x.kind = 7 → 1 ≤ x.cap ∧ x.cap ≤ 100) → (∀ k, k ∈ x.kids → Good k) → Good x
theorem Good.node {x : Rx} (h : Good x) : NodeP x := by cases h; assumption
theorem Good.capb {x : Rx} (h : Good x) : x.kind = 7 → 1 ≤ x.cap ∧ x.cap ≤ 100 := by cases h; assumption
theorem Good.kid {x : Rx} (h : Good x) : ∀ k, k ∈ x.kids → Good k := by cases h; assumption
structure In where
  op : Int
  out : Int
  alt : Int
  arg : Int
  rs : List (Int × Int)
mutual
def Rx.esz : Rx → Nat
  | .mk k r rs mn mx lz cp nm ks =>
    if k = 1 then 0 else if k = 4 then iC ks else if k = 5 then iC ks + 2 * (ks.length - 1)
    else if k = 6 then (if mx = -1 then mn.toNat * iC ks + iC ks + 2 else mn.toNat * iC ks + (mx - mn).toNat * (iC ks + 1))
    else if k = 7 then iC ks + 2 else 1
def iC : List Rx → Nat
  | [] => 0
  | x :: xs => x.esz + iC xs
end
theorem Rx.esz_eq (x : Rx) : x.esz = if x.kind = 1 then 0 else if x.kind = 4 then iC x.kids else if x.kind = 5 then iC x.kids + 2 * (x.kids.length - 1)
    else if x.kind = 6 then (if x.max = -1 then x.min.toNat * iC x.kids + iC x.kids + 2 else x.min.toNat * iC x.kids + (x.max - x.min).toNat * (iC x.kids + 1))
    else if x.kind = 7 then iC x.kids + 2 else 1 := by
  cases x; rw [Rx.esz]; rfl
def In.sp (lazy : Bool) (a b : Nat) : In := if lazy then ⟨3, b, a, 0, []⟩ else ⟨3, a, b, 0, []⟩
def Rep (B : Nat → Nat → Prop) : Nat → Nat → Nat → Prop
  | 0, a, b => a = b
  | r + 1, a, b => ∃ m, B a m ∧ Rep B r m b
def Opt (l : List In) (z : Bool) (B : Nat → Nat → Prop) (e : Nat) : Nat → Nat → Prop
  | 0, a => a = e
  | r + 1, a => ∃ m, l[a]? = some (In.sp z (a + 1) e) ∧ B (a + 1) m ∧ Opt l z B e r m
def kX (k : Int) (a : Nat) : In := ⟨if k = 13 then 9 else k - 3, (a : Int) + 1, 0, if k = 13 then 1 else 0, []⟩
mutual
def Blk (l : List In) : Rx → Nat → Nat → Prop
  | .mk k r rs mn mx lz cp nm ks, a, b =>
    (k = 1 → b = a) ∧
    (k = 2 → b = a + 1 ∧ l[a]? = some ⟨2, (a : Int) + 1, 0, 0, [(r, r)]⟩) ∧
    (k = 3 → b = a + 1 ∧ l[a]? = some (if rs = [] then ⟨11, 0, 0, 0, []⟩ else ⟨2, (a : Int) + 1, 0, 0, rs⟩)) ∧
    (k = 4 → gQ l ks a b) ∧
    (k = 5 → qP l ks a b) ∧
    (k = 6 → ∃ m, Rep (gQ l ks) mn.toNat a m ∧ (mx = -1 → ∃ m', l[m]? = some (In.sp lz (m + 1) b) ∧ gQ l ks (m + 1) m' ∧ l[m']? = some ⟨10, (m : Int), 0, 0, []⟩ ∧ b = m' + 1) ∧
      (mx ≠ -1 → Opt l lz (gQ l ks) b (mx - mn).toNat m)) ∧
    (k = 7 → ∃ m, l[a]? = some ⟨4, (a : Int) + 1, 0, 2 * cp, []⟩ ∧ gQ l ks (a + 1) m ∧ l[m]? = some ⟨4, (m : Int) + 1, 0, 2 * cp + 1, []⟩ ∧ b = m + 1) ∧
    (8 ≤ k → b = a + 1 ∧ l[a]? = some (kX k a))
def gQ (l : List In) : List Rx → Nat → Nat → Prop
  | [], a, b => a = b
  | x :: xs, a, b => ∃ m, Blk l x a m ∧ gQ l xs m b
def qP (l : List In) : List Rx → Nat → Nat → Prop
  | [], _, _ => False
  | x :: xs, a, b => (xs = [] → Blk l x a b) ∧ (xs ≠ [] → ∃ m, l[a]? = some (In.sp false (a + 1) (m + 1)) ∧ Blk l x (a + 1) m ∧ l[m]? = some ⟨10, (b : Int), 0, 0, []⟩ ∧ qP l xs (m + 1) b)
end
def InR (c : Int) (l : List (Int × Int)) : Prop := ∃ g, g ∈ l ∧ g.1 ≤ c ∧ c ≤ g.2
def wP (c : Int) : Prop := (48 ≤ c ∧ c ≤ 57) ∨ (65 ≤ c ∧ c ≤ 90) ∨ (97 ≤ c ∧ c ≤ 122) ∨ c = 95
def Bef (rs : List Int) (i : Nat) : Prop := 0 < i ∧ ∃ c, rs[i - 1]? = some c ∧ wP c
def Aft (rs : List Int) (i : Nat) : Prop := ∃ c, rs[i]? = some c ∧ wP c
def Plc (rs : List Int) (k : Int) (i : Nat) : Prop :=
  (k = 8 ∧ i = 0) ∨ (k = 9 ∧ i = rs.length) ∨ (k = 10 ∧ (i = 0 ∨ rs[i - 1]? = some 10)) ∨ (k = 11 ∧ (i = rs.length ∨ rs[i]? = some 10)) ∨ (k = 12 ∧ ¬ (Bef rs i ↔ Aft rs i)) ∨ (k = 13 ∧ (Bef rs i ↔ Aft rs i))
def It (R : Nat → Nat → Prop) : Nat → Nat → Nat → Prop
  | 0, i, j => i = j
  | c + 1, i, j => ∃ k, R i k ∧ It R c k j
mutual
def Mt (rs : List Int) : Rx → Nat → Nat → Prop
  | .mk k r g mn mx lz cp nm ks, i, j =>
    (k = 1 ∧ i = j) ∨ (k = 2 ∧ j = i + 1 ∧ rs[i]? = some r) ∨ (k = 3 ∧ j = i + 1 ∧ ∃ c, rs[i]? = some c ∧ InR c g) ∨ (k = 4 ∧ Mts rs ks i j) ∨ (k = 5 ∧ MtA rs ks i j) ∨
    (k = 6 ∧ ∃ c, mn.toNat ≤ c ∧ (mx = -1 ∨ c ≤ mx.toNat) ∧ It (Mts rs ks) c i j) ∨ (k = 7 ∧ Mts rs ks i j) ∨ (8 ≤ k ∧ i = j ∧ Plc rs k i)
def Mts (rs : List Int) : List Rx → Nat → Nat → Prop
  | [], i, j => i = j
  | x :: xs, i, j => ∃ k, Mt rs x i k ∧ Mts rs xs k j
def MtA (rs : List Int) : List Rx → Nat → Nat → Prop
  | [], _, _ => False
  | x :: xs, i, j => Mt rs x i j ∨ MtA rs xs i j
end
theorem It.add {R : Nat → Nat → Prop} {a b : Nat} : ∀ {i j}, It R (a + b) i j ↔ ∃ k, It R a i k ∧ It R b k j := by
  induction a with
  | zero => intro i j; simp only [Nat.zero_add, It]; constructor; exact fun h => ⟨i, rfl, h⟩; rintro ⟨k, rfl, h⟩; exact h
  | succ a ih =>
    intro i j
    rw [show a + 1 + b = (a + b) + 1 from by omega]
    simp only [It]
    constructor
    · rintro ⟨k, h1, h2⟩
      obtain ⟨m, h3, h4⟩ := ih.1 h2
      exact ⟨m, ⟨k, h1, h3⟩, h4⟩
    · rintro ⟨m, ⟨k, h1, h3⟩, h4⟩
      exact ⟨k, h1, ih.2 ⟨m, h3, h4⟩⟩
def jS (rs : List Int) (c : In) (i : Nat) : Prop := c.op = 3 ∨ c.op = 4 ∨ c.op = 10 ∨ (5 ≤ c.op ∧ c.op ≤ 8 ∧ Plc rs (c.op + 3) i) ∨ (c.op = 9 ∧ Plc rs (if c.arg = 0 then 12 else 13) i)
def Eps (l : List In) (rs : List Int) (i p q : Nat) : Prop := ∃ c, l[p]? = some c ∧ jS rs c i ∧ ((q : Int) = c.out ∨ (c.op = 3 ∧ (q : Int) = c.alt))
def Eat (l : List In) (rs : List Int) (i p q : Nat) : Prop := ∃ c, l[p]? = some c ∧ c.op = 2 ∧ (q : Int) = c.out ∧ ∃ r, rs[i]? = some r ∧ InR r c.rs
def zJ (l : List In) (rs : List Int) (p i q j : Nat) : Prop := (j = i ∧ Eps l rs i p q) ∨ (j = i + 1 ∧ Eat l rs i p q)
inductive Way (l : List In) (rs : List Int) (a b q j : Nat) : Nat → Nat → Prop
  | nil : Way l rs a b q j q j
  | cons {p i p' i' : Nat} : a ≤ p → p < b → zJ l rs p i p' i' → Way l rs a b q j p' i' → Way l rs a b q j p i
variable {l : List In} {rs : List Int}
theorem Way.mono {a b c d q j p i : Nat} (h : Way l rs c d q j p i) (h1 : a ≤ c) (h2 : d ≤ b) : Way l rs a b q j p i := by
  induction h with
  | nil => exact .nil
  | cons ha hb hs _ ih => exact .cons (by omega) (by omega) hs ih
theorem Way.trans {a b q j m k p i : Nat} (h : Way l rs a b m k p i) (h1 : Way l rs a b q j m k) : Way l rs a b q j p i := by
  induction h with
  | nil => exact h1
  | cons ha hb hs _ ih => exact .cons ha hb hs ih
theorem Way.done {a b q j i : Nat} (h : Way l rs a b q j b i) : q = b ∧ i = j := by
  cases h with
  | nil => exact ⟨rfl, rfl⟩
  | cons ha hb => omega
def VW (l : List In) (rs : List Int) (a b : Nat) : Prop := ∀ p i q j, a ≤ p → p < b → zJ l rs p i q j → a ≤ q ∧ q ≤ b
theorem Way.cut {a b c d j p i : Nat} (h : Way l rs a b b j p i) (hc : VW l rs c d) (h1 : a ≤ c) (h2 : d ≤ b) (h3 : c ≤ p) (h4 : p ≤ d) : ∃ k, Way l rs c d d k p i ∧ Way l rs a b b j d k := by
  induction h with
  | nil => obtain rfl : b = d := by omega
           exact ⟨_, .nil, .nil⟩
  | cons ha hb hs hw ih =>
    rename_i p i p' i'
    by_cases e : p = d
    · subst e; exact ⟨i, .nil, .cons ha hb hs hw⟩
    · obtain ⟨h5, h6⟩ := hc _ _ _ _ h3 (by omega) hs
      obtain ⟨k, h7, h8⟩ := ih h5 h6
      exact ⟨k, .cons h3 (by omega) hs h7, h8⟩
structure Leads (l : List In) (rs : List Int) (a b : Nat) (R : Nat → Nat → Prop) : Prop where
  le : a ≤ b
  cl : VW l rs a b
  way : ∀ i j, Way l rs a b b j a i ↔ R i j
theorem Leads.congr {a b : Nat} {R S : Nat → Nat → Prop} (h : Leads l rs a b R) (e : ∀ i j, R i j ↔ S i j) : Leads l rs a b S := ⟨h.le, h.cl, fun i j => (h.way i j).trans (e i j)⟩
theorem sD (a : Nat) : Leads l rs a a (fun i j => i = j) := ⟨Nat.le_refl _, fun p i q j h1 h2 => by omega, fun i j => ⟨fun h => h.done.2, fun h => h ▸ .nil⟩⟩
theorem qR {a i q j : Nat} {c : In} (h : l[a]? = some c) (hs : zJ l rs a i q j) : (j = i ∧ jS rs c i ∧ ((q : Int) = c.out ∨ (c.op = 3 ∧ (q : Int) = c.alt))) ∨ (j = i + 1 ∧ c.op = 2 ∧ (q : Int) = c.out ∧ ∃ r, rs[i]? = some r ∧ InR r c.rs) := by
  rcases hs with ⟨rfl, c', hc, h1, h2⟩ | ⟨rfl, c', hc, h1, h2⟩
  · rw [h] at hc; cases hc; exact .inl ⟨rfl, h1, h2⟩
  · rw [h] at hc; cases hc; exact .inr ⟨rfl, h1, h2⟩
theorem mY {a : Nat} {c : In} (h : l[a]? = some c) (h1 : c.op = 3 → False) (h2 : c.out = (a : Int) + 1 ∨ c.op = 11) :
    Leads l rs a (a + 1) (fun i j => (j = i ∧ jS rs c i) ∨ (j = i + 1 ∧ c.op = 2 ∧ ∃ r, rs[i]? = some r ∧ InR r c.rs)) := by
  have h11 : c.op = 11 → ∀ i, ¬ jS rs c i := fun h i hg => by unfold jS at hg; omega
  have hout : ∀ {q i}, jS rs c i ∨ c.op = 2 → (q : Int) = c.out → q = (a : Int) + 1 := fun hg e => by
    rcases h2 with h2 | h2
    · omega
    · rcases hg with hg | hg
      · exact (h11 h2 _ hg).elim
      · omega
  refine ⟨by omega, fun p i q j hp hp' hs => ?_, fun i j => ⟨fun hw => ?_, fun hr => ?_⟩⟩
  · obtain rfl : p = a := by omega
    rcases qR h hs with ⟨rfl, hg, h3 | ⟨h3, -⟩⟩ | ⟨rfl, h3, h4, -⟩
    · have := hout (.inl hg) h3; omega
    · exact (h1 h3).elim
    · have := hout (i := i) (.inr h3) h4; omega
  · cases hw with
    | cons ha hb hs hw =>
      rcases qR h hs with ⟨rfl, hg, h3 | ⟨h3, -⟩⟩ | ⟨rfl, h3, h4, h5⟩
      · rename_i p' _
        obtain rfl : p' = a + 1 := by have := hout (.inl hg) h3; omega
        obtain ⟨-, rfl⟩ := hw.done
        exact .inl ⟨rfl, hg⟩
      · exact (h1 h3).elim
      · rename_i p'
        obtain rfl : p' = a + 1 := by have := hout (i := i) (.inr h3) h4; omega
        obtain ⟨-, rfl⟩ := hw.done
        exact .inr ⟨rfl, h3, h5⟩
  · rcases hr with ⟨rfl, hg⟩ | ⟨rfl, h3, h5⟩
    · refine .cons (Nat.le_refl _) (by omega) (.inl ⟨rfl, c, h, hg, .inl ?_⟩) .nil
      rcases h2 with h2 | h2
      · omega
      · exact (h11 h2 _ hg).elim
    · refine .cons (Nat.le_refl _) (by omega) (.inr ⟨rfl, c, h, h3, ?_, h5⟩) .nil
      omega
theorem mX {a m b : Nat} {R S : Nat → Nat → Prop} (h1 : Leads l rs a m R) (h2 : Leads l rs m b S) : Leads l rs a b (fun i j => ∃ k, R i k ∧ S k j) := by
  have e1 := h1.le
  have e2 := h2.le
  refine ⟨by omega, fun p i q j hp hp' hs => ?_, fun i j => ⟨fun hw => ?_, ?_⟩⟩
  · by_cases e : p < m
    · have := h1.cl p i q j hp e hs; omega
    · have := h2.cl p i q j (by omega) hp' hs; omega
  · obtain ⟨k, w1, w2⟩ := hw.cut h1.cl (by omega) (by omega) (by omega) (by omega)
    obtain ⟨k', w3, w4⟩ := w2.cut h2.cl (by omega) (by omega) (by omega) (by omega)
    obtain ⟨-, rfl⟩ := w4.done
    exact ⟨k, (h1.way _ _).1 w1, (h2.way _ _).1 w3⟩
  · rintro ⟨k, r1, r2⟩
    exact (((h1.way _ _).2 r1).mono (Nat.le_refl _) (by omega)).trans (((h2.way _ _).2 r2).mono (by omega) (Nat.le_refl _))
theorem AW {B : Nat → Nat → Prop} {R : Nat → Nat → Prop} (hB : ∀ a b, B a b → Leads l rs a b R) : ∀ {n a b}, Rep B n a b → Leads l rs a b (It R n)
  | 0, a, b, h => by cases h; exact sD a
  | n + 1, a, b, ⟨m, h1, h2⟩ => mX (hB _ _ h1) (AW hB h2)
theorem uL {z : Bool} {a x y i q j : Nat} (h : l[a]? = some (In.sp z x y)) (hs : zJ l rs a i q j) : j = i ∧ (q = x ∨ q = y) := by
  rcases qR h hs with ⟨rfl, hg, h3⟩ | ⟨rfl, h3, -⟩
  · refine ⟨rfl, ?_⟩
    unfold In.sp at h3
    split at h3 <;> simp only at h3 <;> omega
  · unfold In.sp at h3
    split at h3 <;> simp only at h3 <;> omega
theorem QR {z : Bool} {a x y i : Nat} (h : l[a]? = some (In.sp z x y)) : zJ l rs a i x i := by
  refine .inl ⟨rfl, _, h, ?_, ?_⟩
  · unfold jS In.sp; split <;> simp
  · unfold In.sp; split <;> simp
theorem HL {z : Bool} {a x y i : Nat} (h : l[a]? = some (In.sp z x y)) : zJ l rs a i y i := by
  refine .inl ⟨rfl, _, h, ?_, ?_⟩
  · unfold jS In.sp; split <;> simp
  · unfold In.sp; split <;> simp
theorem CP {a x i q j : Nat} (h : l[a]? = some ⟨10, (x : Int), 0, 0, []⟩) (hs : zJ l rs a i q j) : j = i ∧ q = x := by
  rcases qR h hs with ⟨rfl, hg, h3 | ⟨h3, -⟩⟩ | ⟨rfl, h3, -⟩
  · exact ⟨rfl, by simp only at h3; omega⟩
  · simp only at h3; omega
  · simp only at h3; omega
theorem jp_in {a x i : Nat} (h : l[a]? = some ⟨10, (x : Int), 0, 0, []⟩) : zJ l rs a i x i := .inl ⟨rfl, _, h, .inr (.inr (.inl rfl)), .inl rfl⟩
theorem AX {z : Bool} {B : Nat → Nat → Prop} {R : Nat → Nat → Prop} {e : Nat} (hB : ∀ a b, B a b → Leads l rs a b R) : ∀ {r a}, Opt l z B e r a → Leads l rs a e (fun i j => ∃ c, c ≤ r ∧ It R c i j)
  | 0, a, h => by
    cases h
    refine (sD _).congr fun i j => ⟨fun h => ⟨0, Nat.le_refl _, h⟩, ?_⟩
    rintro ⟨c, hc, h⟩
    obtain rfl : c = 0 := by omega
    exact h
  | r + 1, a, ⟨m, h1, h2, h3⟩ => by
    have f1 := hB _ _ h2
    have f2 := AX hB h3
    have e1 := f1.le
    have e2 := f2.le
    refine ⟨by omega, fun p i q j hp hp' hs => ?_, fun i j => ⟨fun hw => ?_, ?_⟩⟩
    · by_cases e : p = a
      · subst e; have := uL h1 hs; omega
      · by_cases e : p < m
        · have := f1.cl p i q j (by omega) e hs; omega
        · have := f2.cl p i q j (by omega) hp' hs; omega
    · cases hw with
      | nil => omega
      | cons ha hb hs hw =>
        obtain ⟨rfl, h4⟩ := uL h1 hs
        rcases h4 with rfl | rfl
        · obtain ⟨k, w1, w2⟩ := hw.cut f1.cl (by omega) (by omega) (by omega) (by omega)
          obtain ⟨k', w3, w4⟩ := w2.cut f2.cl (by omega) (by omega) (by omega) (by omega)
          obtain ⟨-, rfl⟩ := w4.done
          obtain ⟨c, hc, hi⟩ := (f2.way _ _).1 w3
          exact ⟨c + 1, by omega, k, (f1.way _ _).1 w1, hi⟩
        · obtain ⟨-, rfl⟩ := hw.done
          exact ⟨0, by omega, rfl⟩
    · rintro ⟨c, hc, hi⟩
      cases c with
      | zero => cases hi; exact .cons (Nat.le_refl _) (by omega) (HL h1) .nil
      | succ c =>
        obtain ⟨k, r1, r2⟩ := hi
        exact .cons (Nat.le_refl _) (by omega) (QR h1) ((((f1.way _ _).2 r1).mono (by omega) (by omega)).trans (((f2.way _ _).2 ⟨c, by omega, r2⟩).mono (by omega) (Nat.le_refl _)))
theorem IP {z : Bool} {R : Nat → Nat → Prop} {a m : Nat} (h1 : l[a]? = some (In.sp z (a + 1) (m + 1))) (f1 : Leads l rs (a + 1) m R) (h2 : l[m]? = some ⟨10, (a : Int), 0, 0, []⟩) : Leads l rs a (m + 1) (fun i j => ∃ c, It R c i j) := by
  have e1 := f1.le
  have key : ∀ {j p i}, Way l rs a (m + 1) (m + 1) j p i → (p = a → ∃ c, It R c i j) ∧ (a + 1 ≤ p → p ≤ m → ∃ k c, Way l rs (a + 1) m m k p i ∧ It R c k j) := by
    intro j p i hw
    induction hw with
    | nil => exact ⟨fun h => by omega, fun _ h => by omega⟩
    | cons ha hb hs hw ih =>
      rename_i p i p' i'
      refine ⟨fun e => ?_, fun h3 h4 => ?_⟩
      · subst e
        obtain ⟨rfl, h4⟩ := uL h1 hs
        rcases h4 with rfl | rfl
        · obtain ⟨k, c, w1, w2⟩ := ih.2 (by omega) (by omega)
          exact ⟨c + 1, k, (f1.way _ _).1 w1, w2⟩
        · obtain ⟨-, rfl⟩ := hw.done
          exact ⟨0, rfl⟩
      · by_cases e : p = m
        · subst e
          obtain ⟨rfl, rfl⟩ := CP h2 hs
          obtain ⟨c, hc⟩ := ih.1 rfl
          exact ⟨_, c, .nil, hc⟩
        · have h5 := f1.cl p i p' i' h3 (by omega) hs
          obtain ⟨k, c, w1, w2⟩ := ih.2 h5.1 h5.2
          exact ⟨k, c, .cons h3 (by omega) hs w1, w2⟩
  refine ⟨by omega, fun p i q j hp hp' hs => ?_, fun i j => ⟨fun hw => (key hw).1 rfl, ?_⟩⟩
  · by_cases e : p = a
    · subst e; have := uL h1 hs; omega
    · by_cases e : p = m
      · subst e; have := CP h2 hs; omega
      · have := f1.cl p i q j (by omega) (by omega) hs; omega
  · rintro ⟨c, hc⟩
    induction c generalizing i with
    | zero => cases hc; exact .cons (Nat.le_refl _) (by omega) (HL h1) .nil
    | succ c ih =>
      obtain ⟨k, r1, r2⟩ := hc
      exact .cons (Nat.le_refl _) (by omega) (QR h1) ((((f1.way _ _).2 r1).mono (by omega) (by omega)).trans (.cons (by omega) (by omega) (jp_in h2) (ih k r2)))
theorem OQ {R S : Nat → Nat → Prop} {a m b : Nat} (h1 : l[a]? = some (In.sp false (a + 1) (m + 1))) (f1 : Leads l rs (a + 1) m R) (h2 : l[m]? = some ⟨10, (b : Int), 0, 0, []⟩) (f2 : Leads l rs (m + 1) b S) :
    Leads l rs a b (fun i j => R i j ∨ S i j) := by
  have e1 := f1.le
  have e2 := f2.le
  refine ⟨by omega, fun p i q j hp hp' hs => ?_, fun i j => ⟨fun hw => ?_, ?_⟩⟩
  · by_cases e : p = a
    · subst e; have := uL h1 hs; omega
    · by_cases e : p = m
      · subst e; have := CP h2 hs; omega
      · by_cases e : p < m
        · have := f1.cl p i q j (by omega) (by omega) hs; omega
        · have := f2.cl p i q j (by omega) (by omega) hs; omega
  · cases hw with
    | nil => omega
    | cons ha hb hs hw =>
      obtain ⟨rfl, h4⟩ := uL h1 hs
      rcases h4 with rfl | rfl
      · obtain ⟨k, w1, w2⟩ := hw.cut f1.cl (by omega) (by omega) (by omega) (by omega)
        cases w2 with
        | nil => omega
        | cons ha hb hs hw =>
          obtain ⟨rfl, rfl⟩ := CP h2 hs
          obtain ⟨-, rfl⟩ := hw.done
          exact .inl ((f1.way _ _).1 w1)
      · obtain ⟨k, w1, w2⟩ := hw.cut f2.cl (by omega) (by omega) (by omega) (by omega)
        obtain ⟨-, rfl⟩ := w2.done
        exact .inr ((f2.way _ _).1 w1)
  · rintro (h | h)
    · exact .cons (Nat.le_refl _) (by omega) (QR h1) ((((f1.way _ _).2 h).mono (by omega) (by omega)).trans (.cons (by omega) (by omega) (jp_in h2) .nil))
    · exact .cons (Nat.le_refl _) (by omega) (HL h1) (((f2.way _ _).2 h).mono (by omega) (by omega))
theorem kA : ∀ {ks : List Rx}, (∀ k, k ∈ ks → ∀ a b, Blk l k a b → Leads l rs a b (Mt rs k)) → ∀ {a b}, gQ l ks a b → Leads l rs a b (Mts rs ks)
  | [], _, a, b, h => by
    rw [gQ] at h; subst h
    exact (sD a).congr fun i j => by rw [Mts]
  | x :: xs, hk, a, b, h => by
    rw [gQ] at h
    obtain ⟨m, h1, h2⟩ := h
    exact (mX (hk x (by simp) _ _ h1) (kA (fun k hk' => hk k (by simp [hk'])) h2)).congr fun i j => by rw [Mts]
theorem tF : ∀ {ks : List Rx}, (∀ k, k ∈ ks → ∀ a b, Blk l k a b → Leads l rs a b (Mt rs k)) → ∀ {a b}, qP l ks a b → Leads l rs a b (MtA rs ks)
  | [], _, a, b, h => by rw [qP] at h; exact h.elim
  | x :: xs, hk, a, b, h => by
    rw [qP] at h
    obtain ⟨h1, h2⟩ := h
    by_cases e : xs = []
    · subst e
      exact (hk x (by simp) _ _ (h1 rfl)).congr fun i j => by rw [MtA, MtA]; simp
    · obtain ⟨m, h3, h4, h5, h6⟩ := h2 e
      exact (OQ h3 (hk x (by simp) _ _ h4) h5 (tF (fun k hk' => hk k (by simp [hk'])) h6)).congr fun i j => by rw [MtA]
theorem num1 {mn mx : Int} (h1 : 0 ≤ mn) (h2 : mx = -1 ∨ mn ≤ mx ∧ mx ≤ 1000) (e : ¬ mx = -1) : mn.toNat + (mx - mn).toNat = mx.toNat := by omega
theorem num2 {a b c d : Nat} (h : a + b = d) (hc : c ≤ b) : a + c ≤ d := by omega
theorem num3 {a b c d : Nat} (h : a + b = d) (h7 : a ≤ c) (h9 : c ≤ d) : c - a ≤ b := by omega
theorem num4 {k : Int} {a : Nat} (h : ¬ k = 6) : (kX k a).op = 3 → False := by unfold kX; simp only; split <;> omega
theorem num5 {k : Int} {P Q : Prop} (k2 : k ≤ 13) (e : ¬ k = 13) (e9 : ¬ k = 12) (k1 : 1 ≤ k) (e1 : ¬ k = 1) (e2 : ¬ k = 2) (e3 : ¬ k = 3) (e4 : ¬ k = 4) (e5 : ¬ k = 5) (e6 : ¬ k = 6) (e7 : ¬ k = 7) :
    (k - 3 = 3 ∨ k - 3 = 4 ∨ k - 3 = 10 ∨ (5 ≤ k - 3 ∧ k - 3 ≤ 8 ∧ P) ∨ (k - 3 = 9 ∧ Q)) ↔ P := by
  constructor
  · rintro (h | h | h | ⟨-, -, h⟩ | ⟨h, -⟩)
    · omega
    · omega
    · omega
    · exact h
    · omega
  · exact fun h => .inr (.inr (.inr (.inl ⟨by omega, by omega, h⟩)))
theorem num6 (k : Int) : k - 3 + 3 = k := by omega
theorem num7 {k : Int} (k1 : 1 ≤ k) (e1 : ¬ k = 1) (e2 : ¬ k = 2) (e3 : ¬ k = 3) (e4 : ¬ k = 4) (e5 : ¬ k = 5) (e6 : ¬ k = 6) (e7 : ¬ k = 7) : 8 ≤ k := by omega
theorem num8 {k : Int} (k1 : 1 ≤ k) (e1 : ¬ k = 1) (e2 : ¬ k = 2) (e3 : ¬ k = 3) (e4 : ¬ k = 4) (e5 : ¬ k = 5) (e6 : ¬ k = 6) (e7 : ¬ k = 7) : k - 3 = 2 → False := by omega
theorem sJ {x : Rx} (hg : Good x) : ∀ a b, Blk l x a b → Leads l rs a b (Mt rs x) := by
  induction hg with
  | @mk x hn hc _ ih =>
    intro a b hb
    have k1 := hn.kind1
    have k2 := hn.kind2
    have kr := hn.rep
    obtain ⟨k, r, g, mn, mx, lz, cp, nm, ks⟩ := x
    simp only [Rx.kind, Rx.kids, Rx.min, Rx.max] at *
    rw [Blk] at hb
    obtain ⟨b1, b2, b3, b4, b5, b6, b7, b8⟩ := hb
    by_cases e1 : k = 1
    · rw [b1 e1]
      exact (sD a).congr fun i j => by rw [Mt]; subst e1; simp
    by_cases e2 : k = 2
    · obtain ⟨rfl, h⟩ := b2 e2
      refine (mY h (by simp) (.inl rfl)).congr fun i j => ?_
      rw [Mt]; subst e2
      simp [jS, InR]
      intro _
      constructor
      · rintro ⟨r', h1, h2, h3⟩; obtain rfl : r = r' := by omega
        exact h1
      · exact fun h => ⟨r, h, Int.le_refl _, Int.le_refl _⟩
    by_cases e3 : k = 3
    · obtain ⟨rfl, h⟩ := b3 e3
      subst e3
      split at h
      · rename_i e; subst e
        refine (mY h (by simp) (.inr rfl)).congr fun i j => ?_
        rw [Mt]; simp [jS, InR]
      · refine (mY h (by simp) (.inl rfl)).congr fun i j => ?_
        rw [Mt]; simp [jS]
    by_cases e4 : k = 4
    · exact (kA ih (b4 e4)).congr fun i j => by rw [Mt]; subst e4; simp
    by_cases e5 : k = 5
    · exact (tF ih (b5 e5)).congr fun i j => by rw [Mt]; subst e5; simp
    by_cases e6 : k = 6
    · obtain ⟨m, h1, h2, h3⟩ := b6 e6
      obtain ⟨q1, q2, q3, q4⟩ := kr e6
      have f1 := AW (fun a b h => kA ih h) h1
      by_cases e : mx = -1
      · obtain ⟨m', h4, h5, h6, rfl⟩ := h2 e
        refine (mX f1 (IP h4 (kA ih h5) h6)).congr fun i j => ?_
        rw [Mt]; subst e6
        simp only [Int.reduceEq, false_and, false_or, true_and, Int.reduceLE, or_false]
        constructor
        · rintro ⟨k, r1, c, r2⟩
          exact ⟨mn.toNat + c, by omega, .inl e, It.add.2 ⟨k, r1, r2⟩⟩
        · rintro ⟨c, h7, -, h8⟩
          obtain ⟨k, r1, r2⟩ := It.add.1 (show It _ (mn.toNat + (c - mn.toNat)) i j by rw [show mn.toNat + (c - mn.toNat) = c from by omega]; exact h8)
          exact ⟨k, r1, _, r2⟩
      · refine (mX f1 (AX (fun a b h => kA ih h) (h3 e))).congr fun i j => ?_
        rw [Mt]; subst e6
        have q5 : mn.toNat + (mx - mn).toNat = mx.toNat := num1 q1 q3 e
        simp only [Int.reduceEq, false_and, false_or, true_and, Int.reduceLE, or_false]
        constructor
        · rintro ⟨k, r1, c, hc, r2⟩
          exact ⟨mn.toNat + c, by omega, .inr (num2 q5 hc), It.add.2 ⟨k, r1, r2⟩⟩
        · rintro ⟨c, h7, h9, h8⟩
          replace h9 : c ≤ mx.toNat := h9.resolve_left e
          obtain ⟨k, r1, r2⟩ := It.add.1 (show It _ (mn.toNat + (c - mn.toNat)) i j by rw [show mn.toNat + (c - mn.toNat) = c from by omega]; exact h8)
          exact ⟨k, r1, _, num3 q5 h7 h9, r2⟩
    by_cases e7 : k = 7
    · obtain ⟨m, h1, h2, h3, rfl⟩ := b7 e7
      refine (mX (mY h1 (by simp) (.inl rfl)) (mX (kA ih h2) (mY h3 (by simp) (.inl rfl)))).congr fun i j => ?_
      rw [Mt]; subst e7
      simp [jS]
    · obtain ⟨rfl, h⟩ := b8 (by omega)
      refine (mY h (num4 e6) (.inl rfl)).congr fun i j => ?_
      rw [Mt]
      simp only [e1, e2, e3, e4, e5, e6, e7, false_and, false_or]
      unfold kX jS
      by_cases e : k = 13
      · subst e; simp; intro _; exact eq_comm
      · simp only [e, if_false]
        by_cases e9 : k = 12
        · subst e9; simp; intro _; exact eq_comm
        · rw [num6 k]
          try simp only [e, e9, if_false, false_and, or_false]
          constructor
          · rintro (⟨rfl, h⟩ | ⟨-, h, -⟩)
            · exact ⟨num7 k1 e1 e2 e3 e4 e5 e6 e7, rfl, (num5 k2 e e9 k1 e1 e2 e3 e4 e5 e6 e7).1 h⟩
            · exact (num8 k1 e1 e2 e3 e4 e5 e6 e7 h).elim
          · rintro ⟨h1, rfl, h2⟩
            exact .inl ⟨rfl, (num5 k2 e e9 k1 e1 e2 e3 e4 e5 e6 e7).2 h2⟩
end Go.Proofs.Ytidpigbinpaaeaa
namespace Go.Proofs.Ytidpigbinpaaeaa
open Go.RowKit Go.W
mutual
theorem BF : ∀ (x : Rx) (b : Int) (st st' : St), x.fine b st = some st' → Good x
  | .mk k r rs mn mx lz cp nm ks, b, st, st', h => by
    by_cases hc : st.1 + 1 ≤ 8194 ∧ (if (Rx.mk k r rs mn mx lz cp nm ks).kind = 7 then b + 1 else b) ≤ 250 ∧ NodeP (.mk k r rs mn mx lz cp nm ks) ∧ ((Rx.mk k r rs mn mx lz cp nm ks).kind = 7 → jW (Rx.mk k r rs mn mx lz cp nm ks).cap (Rx.mk k r rs mn mx lz cp nm ks).name st.2)
    · rw [mC hc] at h
      refine ⟨hc.2.2.1, fun h7 => ?_, sR ks _ _ _ _ h⟩
      obtain ⟨h1, h2, -⟩ := hc.2.2.2 h7
      omega
    · rw [uC hc] at h; cases h
theorem sR : ∀ (l : List Rx) (k b : Int) (st st' : St), dN l k b st = some st' → ∀ x, x ∈ l → Good x
  | [], _, _, _, _, _, x, hx => by cases hx
  | y :: ys, k, b, st, st', h, x, hx => by
    rw [dN] at h
    cases hy : y.fine (b + if Brk y.kind k then 1 else 0) st with
    | none => rw [hy] at h; cases h
    | some s1 =>
      rw [hy] at h
      rcases List.mem_cons.1 hx with e | hx
      · rw [e]; exact BF y _ _ _ hy
      · exact sR ys _ _ _ _ h x hx
end
theorem Rx.Ok.good {x : Rx} (h : x.Ok) : Good x := by obtain ⟨st, h⟩ := h; exact BF _ _ _ _ h
theorem sH {l : List Rx} {k : Nat} (h : k < l.length) : iC (l.take (k + 1)) = iC (l.take k) + l[k].esz := by
  induction l generalizing k with
  | nil => simp at h
  | cons x xs ih =>
    cases k with
    | zero => simp [iC]
    | succ k =>
      have := ih (k := k) (by simpa using h)
      simp only [List.take_succ_cons, iC, List.getElem_cons_succ]
      omega
theorem FW {l : List Rx} (h : l.length = 1) : iC l = (l[0]'(by omega)).esz := by
  match l, h with
  | [x], _ => simp [iC]
theorem esz1 {t : Rx} (h : t.kind = 1) : (t.esz : Int) = 0 := by rw [Rx.esz_eq, if_pos h]; rfl
theorem esz4 {t : Rx} (h : t.kind = 4) : (t.esz : Int) = iC t.kids := by rw [Rx.esz_eq, if_neg (by omega), if_pos h]
theorem esz5 {t : Rx} (h : t.kind = 5) (hg : 1 ≤ t.kids.length) : (t.esz : Int) = iC t.kids + 2 * ((t.kids.length : Int) - 1) := by rw [Rx.esz_eq, if_neg (by omega), if_neg (by omega), if_pos h]; omega
theorem esz7 {t : Rx} (h : t.kind = 7) : (t.esz : Int) = iC t.kids + 2 := by rw [Rx.esz_eq, if_neg (by omega), if_neg (by omega), if_neg (by omega), if_neg (by omega), if_pos h]; rfl
theorem esz6a {t : Rx} (h : t.kind = 6) (h0 : 0 ≤ t.min) (hm : t.max = -1) : (t.esz : Int) = t.min * iC t.kids + iC t.kids + 2 := by
  rw [Rx.esz_eq, if_neg (by omega), if_neg (by omega), if_neg (by omega), if_pos h, if_pos hm, Int.natCast_add, Int.natCast_add, Int.natCast_mul, Int.toNat_of_nonneg h0]; rfl
theorem esz6b {t : Rx} (h : t.kind = 6) (h0 : 0 ≤ t.min) (hm : t.min ≤ t.max) : (t.esz : Int) = t.min * iC t.kids + (t.max - t.min) * (iC t.kids + 1) := by
  rw [Rx.esz_eq, if_neg (by omega), if_neg (by omega), if_neg (by omega), if_pos h, if_neg (by omega), Int.natCast_add, Int.natCast_mul, Int.natCast_mul, Int.toNat_of_nonneg h0, Int.toNat_of_nonneg (by omega), Int.natCast_add]; rfl
theorem yC {t : Rx} (h : t.kind ≠ 1 ∧ t.kind ≠ 4 ∧ t.kind ≠ 5 ∧ t.kind ≠ 6 ∧ t.kind ≠ 7) : (t.esz : Int) = 1 := by
  obtain ⟨h1, h2, h3, h4, h5⟩ := h
  rw [Rx.esz_eq, if_neg h1, if_neg h2, if_neg h3, if_neg h4, if_neg h5]; rfl
theorem MI {m k : Int} (hm : 0 ≤ m) (hk : 0 ≤ k) : m * k = 0 ∨ k ≤ m * k := by
  by_cases e : m = 0
  · left; rw [e, Int.zero_mul]
  · right
    have : (m - 1) * k ≥ 0 := Int.mul_nonneg (by omega) hk
    rw [Int.sub_mul, Int.one_mul] at this
    omega
theorem GI {m k : Int} (hm : 0 ≤ m) (hk : 0 ≤ k) : min (m * min k 10001 + min k 10001 + 2) 10001 = min (m * k + k + 2) 10001 := by
  by_cases e : k ≤ 10001
  · rw [Int.min_eq_left e]
  · rw [Int.min_eq_right (show (10001 : Int) ≤ k by omega)]
    have h1 := Int.mul_nonneg hm hk
    have h2 := Int.mul_nonneg hm (show (0 : Int) ≤ 10001 by omega)
    omega
theorem GH {m d k : Int} (hm : 0 ≤ m) (hd : 0 ≤ d) (hk : 0 ≤ k) : min (m * min k 10001 + d * (min k 10001 + 1)) 10001 = min (m * k + d * (k + 1)) 10001 := by
  by_cases e : k ≤ 10001
  · rw [Int.min_eq_left e]
  · rw [Int.min_eq_right (show (10001 : Int) ≤ k by omega)]
    have h1 := Int.mul_nonneg hm hk
    have h3 := Int.mul_nonneg hd (show (0 : Int) ≤ k + 1 by omega)
    by_cases e1 : m = 0
    · subst e1
      by_cases e2 : d = 0
      · subst e2; simp
      · have h2 := MI hd (show (0 : Int) ≤ k + 1 by omega)
        have h4 : d * (k + 1) ≠ 0 := fun h => by rcases Int.mul_eq_zero.1 h with h | h <;> omega
        omega
    · have h2 := MI hm (show (0 : Int) ≤ k by omega)
      have h4 : m * k ≠ 0 := fun h => by rcases Int.mul_eq_zero.1 h with h | h <;> omega
      omega
theorem CJ {m k a b : Int} (hm : 0 ≤ m) (hm2 : m ≤ a) (hk : 0 ≤ k) (hk2 : k ≤ b) : 0 ≤ m * k ∧ m * k ≤ a * b :=
  ⟨Int.mul_nonneg hm hk, Int.mul_le_mul hm2 hk2 hk (by omega)⟩
end Go.Proofs.Ytidpigbinpaaeaa
