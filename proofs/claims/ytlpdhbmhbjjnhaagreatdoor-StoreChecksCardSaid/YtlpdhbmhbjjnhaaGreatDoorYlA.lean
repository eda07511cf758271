/- Checks: part 1 of 4 of what the law rests on. -/
import Derived.Test.YtlpdhbmhbjjnhaaGreatDoorRows
import Derived.Test.YtlpdhbmhbjjnhaaGreatDoorTie
import Derived.WalkKit
import Derived.OrdersHeld
import Derived.Deep.LoopGhost
import Derived.Deep.Quiet
import Derived.KernelRfl
import Derived.ProofKit
import Derived.OpenShut
import Derived.SizedLaws
import Derived.ChangeOld
import Derived.Test.YtlpdhbmhbjjnhaaGreatDoorProg
import Derived.Lib.BitFns
import Derived.Lib.TrailingZeros
import Derived.Laws.MakeOwn
import Derived.Laws.OwnMore
import Derived.Laws.BytesString
import Derived.Shelf.Small.Bits
import Derived.Shelf.Strconv.Itoa0
import Derived.Shelf.Strconv.Itoa1
import Derived.Shelf.LaysM
import Derived.Shelf.Strconv.Itoa2
import Derived.Laws.RangeAny
import Derived.Laws.Strings2
import Derived.Laws.Slices
import Derived.Laws.Small
import Derived.Laws.Concat
import Derived.Lib.DecodeN
import Derived.Scope
import Derived.RangeFuncNested
import Derived.RangeFuncLeaves
import Derived.RangeFuncCalls
import Derived.TacticsIn
import Derived.OwnWalkIn
import Derived.Maps.RangeRun
import Derived.Laws.Cover1
import Derived.Sort.Walk0
import Derived.Lib.Slices
import Derived.Sort.Statements
import Derived.Sort.Grow
import Derived.Shelf.SlSortCmp.WholeK
import Derived.Ground.SlsfProg
import Derived.Shelf.SlSortCmp.NoneTotal
import Derived.Shelf.GgSortFunc.RowK
import Derived.WalkSmall
import Derived.Recover
import Derived.Lib.AppendStr
import Derived.Lib.ItoaLen
import Derived.Conc.MuLone
import Derived.Laws.FloatArith
import Derived.JoinedCond
import Derived.Deep.DeepHandedRow
import Derived.Lib.LaidTab
import Derived.Test.YtlpdhbmhbjjnhaaGreatDoorCards
set_option linter.unusedSectionVars false
set_option linter.unusedSimpArgs false
set_option linter.unusedVariables false
namespace Go.W
theorem dH : (∀ {α : Type} (l : List α) (i : Nat) (a : α), l.toArray.setIfInBounds i a = (l.set i a).toArray) ∧ (∀ {α : Type} (x a : α) (l : List α), (x :: l).set 0 a = a :: l) ∧ (∀ {α : Type} (x a : α) (l : List α) (n : Nat), (x :: l).set (n + 1) a = x :: l.set n a) ∧ (∀ n : Nat, 0 + n = n) ∧ (∀ n : Nat, n + 0 = n) := ⟨fun _ _ _ => List.setIfInBounds_toArray .., fun _ _ _ => rfl, fun _ _ _ _ => rfl, Nat.zero_add, Nat.add_zero⟩
abbrev Env := List (Nat × Value)
def Env.get : Env → Nat → Option Value
  | [], _ => none
  | (k, v) :: r, t => cond (Nat.beq k t) (some v) (Env.get r t)
def Env.ev (σ : Env) : Operand → Option Value
  | .tmp t => σ.get t
  | .const v => some v
  | .global g => some (.pointer (some ⟨g, 0, none⟩))
  | .func f => some (.func (.func f) #[] #[])
abbrev NN := Nat × List Deferred
def Fits (N : NN) (σ : Env) (a : Act) : Prop := a.tmps.size = N.1 ∧ a.defers = N.2 ∧ ∀ t v, σ.get t = some v → a.tmps.getD t undef = v
def EK (σ : Env) (ρ : Operand → Value) : Prop := ∀ x v, σ.ev x = some v → ρ x = v
theorem Fits.agrees {N : NN} {σ : Env} {a : Act} (h : Fits N σ a) : EK σ a.eval := by
  intro x v hx
  cases x with
  | tmp t => exact h.2.2 t v hx
  | const u => simp only [Env.ev, Option.some.injEq] at hx; exact hx
  | global g => simp only [Env.ev, Option.some.injEq] at hx; exact hx
  | func f => simp only [Env.ev, Option.some.injEq] at hx; exact hx
theorem Fits.put {N : NN} {σ : Env} {a : Act} (h : Fits N σ a) {d : Nat} (hd : d < N.1) (v : Value) : Fits N ((d, v) :: σ) (a.put (some d) v) := by
  refine ⟨by simp [Act.put, h.1], h.2.1, fun t u hu => ?_⟩
  simp only [Env.get] at hu
  cases hk : Nat.beq d t with
  | true =>
    rw [hk] at hu
    have : d = t := Nat.eq_of_beq_eq_true hk
    subst this
    simp only [cond_true, Option.some.injEq] at hu
    have hs : d < a.tmps.size := by rw [h.1]; exact hd
    simp [Act.put, hs, hu]
  | false =>
    rw [hk] at hu
    have hne : d ≠ t := Nat.ne_of_beq_eq_false hk
    have := h.2.2 t u hu
    simp only [Act.put, Array.getD_eq_getD_getElem?, Array.getElem?_setIfInBounds_ne hne] at this ⊢
    exact this
def Sub : Env → Env → Prop
  | [], _ => True
  | (k, v) :: r, σ => σ.get k = some v ∧ Sub r σ
theorem Sub.get {S σ : Env} (h : Sub S σ) : ∀ t v, S.get t = some v → σ.get t = some v := by
  induction S with
  | nil => intro t v hv; cases hv
  | cons p r ih =>
    obtain ⟨k, u⟩ := p
    intro t v hv
    simp only [Env.get] at hv
    cases hk : Nat.beq k t with
    | true =>
      rw [hk] at hv
      have : k = t := Nat.eq_of_beq_eq_true hk
      subst this
      simp only [cond_true, Option.some.injEq] at hv
      subst hv
      exact h.1
    | false => rw [hk] at hv; exact ih h.2 t v hv
theorem Env.get_append {A B : Env} : ∀ t v, (A ++ B).get t = some v → A.get t = some v ∨ (A.get t = none ∧ B.get t = some v) := by
  induction A with
  | nil => intro t v h; exact .inr ⟨rfl, h⟩
  | cons p r ih =>
    obtain ⟨k, u⟩ := p
    intro t v h
    simp only [List.cons_append, Env.get] at h ⊢
    cases hk : Nat.beq k t with
    | true => rw [hk] at h; exact .inl h
    | false => rw [hk] at h; exact ih t v h
theorem Fits.app {N : NN} {A B σ τ : Env} {a : Act} (hA : Sub A σ) (hB : Sub B τ) (h : Fits N σ a) (h' : Fits N τ a) : Fits N (A ++ B) a :=
  ⟨h.1, h.2.1, fun t v hv => by
    rcases Env.get_append t v hv with h1 | ⟨_, h1⟩
    · exact h.2.2 t v (hA.get t v h1)
    · exact h'.2.2 t v (hB.get t v h1)⟩
abbrev fJ := Exit → NN → Env → World → Prop
def toQ (R : fJ) : Exit → Act → World → Prop
  | .panic c, a, w => ∃ N σ, Fits N σ a ∧ R (.panic c) N σ w
  | .outgrown, _, w => ∃ N : NN, R .outgrown N [] w
  | .normal, a, w => ∃ N σ, Fits N σ a ∧ R .normal N σ w
  | .exit i, a, w => ∃ N σ, Fits N σ a ∧ R (.exit i) N σ w
  | .goto l, a, w => ∃ N σ, Fits N σ a ∧ R (.goto l) N σ w
  | .ret, a, w => ∃ N σ, Fits N σ a ∧ R .ret N σ w
def CW (P : Program) (N : NN) (c : Code) (R : fJ) (σ : Env) (w : World) : Prop := ∀ a, Fits N σ a → c.wp P (toQ R) a w
def kU (K : NN → Env → World → Prop) (R : fJ) : fJ
  | .normal, N, σ, w => K N σ w
  | .exit i, N, σ, w => R (.exit i) N σ w
  | .goto l, N, σ, w => R (.goto l) N σ w
  | .ret, N, σ, w => R .ret N σ w
  | .panic c, N, σ, w => R (.panic c) N σ w
  | .outgrown, N, σ, w => R .outgrown N σ w
def qE (id : Nat) (R : fJ) : fJ
  | .exit i, N, σ, w => cond (Nat.beq i id) (R .normal N σ w) (R (.exit i) N σ w)
  | .normal, N, σ, w => R .normal N σ w
  | .goto l, N, σ, w => R (.goto l) N σ w
  | .ret, N, σ, w => R .ret N σ w
  | .panic c, N, σ, w => R (.panic c) N σ w
  | .outgrown, N, σ, w => R .outgrown N σ w
section
variable {P : Program} {N : NN} {R : fJ} {σ : Env} {w : World}
theorem aL {x y : Code} (h : CW P N x (kU (fun N σ w => CW P N y R σ w) R) σ w) : CW P N (.seq x y) R σ w := by
  intro a ha
  refine wp_seq (wp_mono (h a ha) ?_)
  intro e a' w' hq
  cases e with
  | normal => obtain ⟨N', σ', hf, hk⟩ := hq; exact hk a' hf
  | exit i => exact hq
  | goto l => exact hq
  | ret => exact hq
  | panic c => exact hq
  | outgrown => exact hq
theorem aZ {id : Nat} {c : Code} (h : CW P N c (qE id R) σ w) : CW P N (.block id c) R σ w := by
  intro a ha
  refine wp_block (wp_mono (h a ha) ?_)
  intro e a' w' hq
  cases e with
  | normal => exact hq
  | exit i =>
    obtain ⟨N', σ', hf, hk⟩ := hq
    simp only [qE] at hk
    simp only [Exit.inBlock]
    cases hb : Nat.beq i id with
    | true =>
      rw [hb] at hk
      rw [if_pos (Nat.eq_of_beq_eq_true hb)]
      exact ⟨N', σ', hf, hk⟩
    | false =>
      rw [hb] at hk
      rw [if_neg (Nat.ne_of_beq_eq_false hb)]
      exact ⟨N', σ', hf, hk⟩
  | goto l => exact hq
  | ret => exact hq
  | panic c => exact hq
  | outgrown => exact hq
theorem aR (h : R .normal N σ w) : CW P N .skip R σ w := fun _ ha => wp_skip ⟨N, σ, ha, h⟩
theorem bJ {i : Nat} (h : R (.exit i) N σ w) : CW P N (.exit i) R σ w := fun _ ha => wp_exit ⟨N, σ, ha, h⟩
theorem aS (h : R .ret N σ w) : CW P N .ret R σ w := fun _ ha => wp_ret ⟨N, σ, ha, h⟩
theorem bP {c : Operand} {x y : Code} {p : Prop} [Decidable p] (hc : σ.ev c = some (.bool (decide p))) (ht : p → CW P N x R σ w) (hf : ¬ p → CW P N y R σ w) : CW P N (.cond c x y) R σ w := by
  intro a ha
  refine wp_cond_split (ha.agrees c _ hc) (fun h => ht (of_decide_eq_true h) a ha) (fun h => hf (of_decide_eq_false h) a ha)
theorem dX {c : Operand} {x y : Code} {b : Bool} (hc : σ.ev c = some (.bool b)) (ht : b = true → CW P N x R σ w) (hf : b = false → CW P N y R σ w) : CW P N (.cond c x y) R σ w := by
  intro a ha
  exact wp_cond_split (ha.agrees c _ hc) (fun h => ht h a ha) (fun h => hf h a ha)
theorem eX {c : Operand} {x y : Code} (hc : σ.ev c = some (.bool true)) (h : CW P N x R σ w) : CW P N (.cond c x y) R σ w :=
  fun a ha => wp_cond_true (ha.agrees c _ hc) (h a ha)
theorem cY {c : Operand} {x y : Code} (hc : σ.ev c = some (.bool false)) (h : CW P N y R σ w) : CW P N (.cond c x y) R σ w :=
  fun a ha => wp_cond_false (ha.agrees c _ hc) (h a ha)
theorem cH {c : Code} {α : Type} (x0 : α) (M : α → Env) (C : Env) (Φ : α → World → Prop) (μ : α → Nat) (hM : Sub (M x0) σ) (hC : Sub C σ) (h0 : Φ x0 w)
    (round : ∀ x w, Φ x w → CW P N c (kU (fun N' σ' w' => N' = N ∧ ∃ x', μ x' < μ x ∧ Sub (M x') σ' ∧ Sub C σ' ∧ Φ x' w') R) (M x ++ C) w) : CW P N (.loop c) R σ w := by
  intro a ha
  refine wp_loop_ghost (fun n a w => ∃ x, μ x = n ∧ Fits N (M x ++ C) a ∧ Φ x w) (μ x0) ⟨x0, rfl, Fits.app hM hC ha ha, h0⟩ ?_
  rintro n a w ⟨x, rfl, hf, hx⟩
  refine wp_mono (round x w hx a hf) ?_
  intro e a' w' hq
  cases e with
  | normal =>
    obtain ⟨N', σ', hf', rfl, x', hlt, hM', hC', hΦ⟩ := hq
    exact ⟨μ x', hlt, x', rfl, Fits.app hM' hC' hf' hf', hΦ⟩
  | exit i => exact hq
  | goto l => exact hq
  | ret => exact hq
  | panic c => exact hq
  | outgrown => exact hq
theorem aB {K : NN → Env → World → Prop} (h : K N σ w) : kU K R .normal N σ w := h
theorem aM {K : Env → World → Prop} (h : K σ w) : kU (fun N' σ' w' => N' = N ∧ K σ' w') R .normal N σ w := ⟨rfl, h⟩
theorem bC {id : Nat} (h : R .normal N σ w) : qE id R .normal N σ w := h
theorem aI {K : NN → Env → World → Prop} (h : R .ret N σ w) : kU K R .ret N σ w := h
theorem bA {id : Nat} (h : R .ret N σ w) : qE id R .ret N σ w := h
theorem bD {K : NN → Env → World → Prop} {i : Nat} (h : R (.exit i) N σ w) : kU K R (.exit i) N σ w := h
theorem bI {i : Nat} (h : R .normal N σ w) : qE i R (.exit i) N σ w := by
  show cond (Nat.beq i i) _ _
  rw [show Nat.beq i i = true from Nat.beq_refl i]
  exact h
theorem mY {i id : Nat} (hne : Nat.beq i id = false) (h : R (.exit i) N σ w) : qE id R (.exit i) N σ w := by
  show cond (Nat.beq i id) _ _
  rw [hne]
  exact h
end
section
variable {P : Program} {σ : Env} {w : World}
def Ret (Φ : Value → World → Prop) : Ending → World → Prop := fun e w' => ∃ v, e = .returned v ∧ Φ v w'
def mI (P : Program) (fn : Func) (E : Ending → World → Prop) : fJ
  | .normal, N, σ, w => N.2 = [] ∧ ∀ a, Fits (a.tmps.size, a.defers) σ a → ∃ v, (results fn a.tmps).run P w = .ok v w ∧ E (.returned v) w
  | .ret, N, σ, w => N.2 = [] ∧ ∀ a, Fits (a.tmps.size, a.defers) σ a → ∃ v, (results fn a.tmps).run P w = .ok v w ∧ E (.returned v) w
  | .panic chain, N, _, w => N.2 = [] ∧ E (.panicked chain) w
  | .outgrown, _, _, w => E .outgrown w
  | .exit _, _, _, _ => False
  | .goto _, _, _, _ => False
def mC (k : Nat) : List Value → Env
  | [] => []
  | v :: r => (k, v) :: mC (k + 1) r
theorem oG : ∀ (l : List Value) (k t : Nat) (v : Value), (mC k l).get t = some v → k ≤ t ∧ l[t - k]? = some v := by
  intro l
  induction l with
  | nil => intro k t v h; cases h
  | cons u r ih =>
    intro k t v h
    simp only [mC, Env.get] at h
    cases hb : Nat.beq k t with
    | true =>
      rw [hb] at h
      have : k = t := Nat.eq_of_beq_eq_true hb
      subst this
      simp only [cond_true, Option.some.injEq] at h
      exact ⟨Nat.le_refl _, by simp [h]⟩
    | false =>
      rw [hb] at h
      have hne : k ≠ t := Nat.ne_of_beq_eq_false hb
      obtain ⟨h1, h2⟩ := ih (k + 1) t v h
      refine ⟨by omega, ?_⟩
      rw [show t - k = (t - (k + 1)) + 1 from by omega]
      simpa using h2
theorem aU {f : FuncId} {fn : Func} {c : Code} {args : List Value} {E : Ending → World → Prop} {N : Nat}
    (hf : P.funcs[f]? = some fn) (hb : fn.body = some c) (hN : fn.ntmps = N) (hle' : Nat.ble args.length N = true)
    (h : CW P (N, []) c (mI P fn E) (mC 0 args) w) : Calls P f args.toArray w E := by
  have hle : args.length ≤ N := Nat.le_of_ble_eq_true hle'; refine calls_of_wp hf hb (wp_mono (h _ ⟨?_, rfl, ?_⟩) ?_)
  · simp [hN]; omega
  · intro t v hv
    obtain ⟨_, h2⟩ := oG args 0 t v hv; simp only [Nat.sub_zero] at h2; have hlt : t < args.length := (List.getElem?_eq_some_iff.1 h2).1
    have h3 : args[t] = v := by rw [List.getElem?_eq_getElem hlt] at h2; exact Option.some.inj h2
    simp [Array.getElem?_append, hlt, h3]
  · intro e a' w' hq
    cases e with
    | normal => obtain ⟨N', σ', hf', hn, hk⟩ := hq; obtain ⟨v, h1, h2⟩ := hk a' (by rw [hf'.1, hf'.2.1]; exact hf'); exact ⟨hf'.2.1.trans hn, v, h1, h2⟩
    | ret => obtain ⟨N', σ', hf', hn, hk⟩ := hq; obtain ⟨v, h1, h2⟩ := hk a' (by rw [hf'.1, hf'.2.1]; exact hf'); exact ⟨hf'.2.1.trans hn, v, h1, h2⟩
    | panic ch => obtain ⟨N', σ', hf, hn, hk⟩ := hq; exact ⟨hf.2.1.trans hn, hk⟩
    | outgrown => obtain ⟨_, hk⟩ := hq; exact hk
    | exit i => obtain ⟨_, _, _, hk⟩ := hq; exact hk
    | goto l => obtain ⟨_, _, _, hk⟩ := hq; exact hk
theorem qD {n : Nat} {fn : Func} {Φ : Value → World → Prop} (hr : fn.results = #[]) (h : Φ (.tuple #[]) w) : mI P fn (Ret Φ) .ret (n, []) σ w :=
  ⟨rfl, fun _ _ => ⟨.tuple #[], results_none hr _ _ _, _, rfl, h⟩⟩
theorem dS {n : Nat} {fn : Func} {Φ : Value → World → Prop} (hr : fn.results = #[]) (h : Φ (.tuple #[]) w) : mI P fn (Ret Φ) .normal (n, []) σ w :=
  ⟨rfl, fun _ _ => ⟨.tuple #[], results_none hr _ _ _, _, rfl, h⟩⟩
theorem vY {n : Nat} {fn : Func} {t : Tmp} {v : Value} {Φ : Value → World → Prop} (hr : fn.results = #[.tmp t]) (hv : σ.get t = some v) (h : Φ v w) : mI P fn (Ret Φ) .ret (n, []) σ w :=
  ⟨rfl, fun a ha => ⟨v, by rw [results_tmp hr, ha.2.2 t v hv], _, rfl, h⟩⟩
theorem br1 {n : Nat} {fn : Func} {t : Tmp} {v : Value} {Φ : Value → World → Prop} (h : Φ v w) (hr : fn.results = #[.tmp t] := by rfl) (hv : σ.get t = some v := by rfl) : mI P fn (Ret Φ) .ret (n, []) σ w := vY hr hv h
theorem cQ {n : Nat} {fn : Func} {t u : Tmp} {v v' : Value} {Φ : Value → World → Prop} (hr : fn.results = #[.tmp t, .tmp u]) (hv : σ.get t = some v) (hv' : σ.get u = some v') (h : Φ (.tuple #[v, v']) w) : mI P fn (Ret Φ) .ret (n, []) σ w :=
  ⟨rfl, fun a ha => ⟨.tuple #[v, v'], by rw [results_tmp2 hr, ha.2.2 t v hv, ha.2.2 u v' hv'], _, rfl, h⟩⟩
end
structure Evo (X : List Nat) (w w' : World) : Prop where
  os : w'.os = w.os
  tape : w'.tape = w.tape
  output : w'.output = w.output
  size : w.heap.size ≤ w'.heap.size
  block : ∀ b, b < w.heap.size → b ∉ X → w'.heap[b]? = w.heap[b]?
  drawn : w.drawn ≤ w'.drawn
theorem Evo.refl (X : List Nat) (w : World) : Evo X w w := ⟨rfl, rfl, rfl, Nat.le_refl _, fun _ _ _ => rfl, Nat.le_refl _⟩
theorem Evo.trans {X : List Nat} {a b c : World} (h : Evo X a b) (k : Evo X b c) : Evo X a c :=
  ⟨k.os.trans h.os, k.tape.trans h.tape, k.output.trans h.output, Nat.le_trans h.size k.size, fun i hi hx => (k.block i (Nat.lt_of_lt_of_le hi h.size) hx).trans (h.block i hi hx), Nat.le_trans h.drawn k.drawn⟩
theorem Evo.mono {X Y : List Nat} {w w' : World} (h : Evo X w w') (hxy : ∀ b, b ∈ X → b ∈ Y) : Evo Y w w' :=
  ⟨h.os, h.tape, h.output, h.size, fun b hb hy => h.block b hb (fun hx => hy (hxy b hx)), h.drawn⟩
theorem Evo.any {w w' : World} (h : Evo [] w w') (Y : List Nat) : Evo Y w w' := h.mono (fun _ hb => by cases hb)
theorem Evo.step {X Y : List Nat} {a b c : World} (h : Evo X a b) (k : Evo Y b c) (hy : ∀ y, y ∈ Y → y ∈ X ∨ a.heap.size ≤ y) : Evo X a c :=
  ⟨k.os.trans h.os, k.tape.trans h.tape, k.output.trans h.output, Nat.le_trans h.size k.size, fun i hi hx =>
    (k.block i (Nat.lt_of_lt_of_le hi h.size) (fun hiy => by rcases hy i hiy with h1 | h1 <;> first | exact hx h1 | omega)).trans (h.block i hi hx), Nat.le_trans h.drawn k.drawn⟩
theorem Evo.then {a b c : World} {X : List Nat} (h : Evo X a b) (k : Evo [] b c) : Evo X a c := h.step k (fun _ hy => by cases hy)
theorem Evo.blk {X : List Nat} {w w' : World} (h : Evo X w w') {b : Nat} {o : Obj} (hb : w.heap[b]? = some o) (hx : b ∉ X) : w'.heap[b]? = some o := by
  rw [h.block b (Array.getElem?_eq_some_iff.1 hb).1 hx]; exact hb
theorem Evo.blk0 {w w' : World} (h : Evo [] w w') {b : Nat} {o : Obj} (hb : w.heap[b]? = some o) : w'.heap[b]? = some o := h.blk hb (fun h => by cases h)
theorem Evo.cell {X : List Nat} {w w' : World} (h : Evo X w w') {a : Addr} {v : Value} (hc : w.cell? a = some v) (hx : a.block ∉ X) : w'.cell? a = some v :=
  (World.cell?_of_block (h.block a.block (World.block_lt_of_cell? w a hc) hx)).trans hc
theorem iJ {w : World} {b : Nat} {o : Obj} (hb : w.heap[b]? = some o) : b < w.heap.size := (Array.getElem?_eq_some_iff.1 hb).1
theorem Evo.below {w w' : World} (h : Evo [] w w') : RowKit.Below w.heap.size w w' := ⟨h.os, h.tape, h.output, h.size, fun k hk => h.block k hk (fun h => by cases h)⟩
theorem LG (w : World) : Evo [] w { w with drawn := w.drawn + 1 } := ⟨rfl, rfl, rfl, Nat.le_refl _, fun _ _ _ => rfl, Nat.le_succ _⟩
theorem iH (w : World) (o : Obj) : Evo [] w (w.alloc o) := ⟨rfl, rfl, rfl, by simp, fun k hk _ => RowKit.Below.heap_alloc w o k hk, Nat.le_refl _⟩
theorem mH (w : World) (a : Addr) (v : Value) : Evo [a.block] w (w.setCell a v) :=
  ⟨rfl, rfl, rfl, by simp, fun k _ hx => RowKit.Below.heap_setCell _ _ _ _ (fun e => hx (by simp [e])), by simp [World.setCell]; try split <;> simp⟩
def hD (P : Program) (t : TypeId) : Option Bool := (P.underlying t).map fun | .struct _ | .array _ _ => true | _ => false
def eS (P : Program) (t : TypeId) : Option Nat := (P.info? t).map (·.size)
def dV (P : Program) (s : TypeId) (i : Nat) : Option Nat :=
  match P.underlying s with
  | some (.struct fs) => match fs[i]? with
    | some f => match P.info? f.type with
      | some n => if n.size = 0 then none else some f.offset
      | none => none
    | none => none
  | _ => none
def jE (P : Program) (t : TypeId) : Option Nat :=
  match P.underlying t with
  | some (.slice e) => (P.info? e).map (·.size)
  | _ => none
def dC (P : Program) (f : FuncId) : Prop := ∃ fn, P.funcs[f]? = some fn ∧ (fn.name == "runtime.NumGoroutine") = false ∧ fn.body.isNone = false
def Ex (P : Program) (σ : Env) (o : Oper) (w : World) (r : Value) (w' : World) : Prop := ∀ ρ, EK σ ρ → (execOp ρ o).run P w = .ok (.value r) w'
def ExS (P : Program) (σ : Env) (o : Oper) (w : World) (w' : World) : Prop := ∀ ρ, EK σ ρ → (execOp ρ o).run P w = .ok .skip w'
def WL (P : Program) (N : NN) (ops : Array Oper) (R : fJ) (l : List Oper) (σ : Env) (w : World) : Prop := ∀ a, Fits N σ a → wpList P ops (toQ R) l a w
section
variable {P : Program} {N : NN} {R : fJ} {σ : Env} {w w' : World} {ops : Array Oper} {rest : List Oper} {d : Nat} {op : Op} {T : TypeId} {pos : String} {after : Array Edge}
theorem aQ {id : Nat} {l : List Oper} (h : WL P N l.toArray R l σ w) : CW P N (.region id l.toArray false) R σ w := fun a ha => wp_region_lit (h a ha)
theorem aE (h : R .normal N σ w) : WL P N ops R [] σ w := fun _ ha => wpList_nil ⟨N, σ, ha, h⟩
theorem gD {r : Value} (hd : Nat.blt d N.1 = true) (hx : Ex P σ ⟨some d, op, T, pos, after, none⟩ w r w') (h : WL P N ops R rest ((d, r) :: σ) w') :
    WL P N ops R (⟨some d, op, T, pos, after, none⟩ :: rest) σ w := fun a ha => wpList_plain rfl fun K hK => by
  unfold Oper.wp
  rw [hx a.eval ha.agrees]
  exact hK _ _ (h _ (ha.put (of_decide_eq_true (by simpa using hd)) r))
theorem aC {r : Value} (hx : Ex P σ ⟨some d, op, T, pos, after, none⟩ w r w') (h : WL P N ops R rest ((d, r) :: σ) w') (hd : Nat.blt d N.1 = true := by rfl) : WL P N ops R (⟨some d, op, T, pos, after, none⟩ :: rest) σ w := gD hd hx h
theorem wA (hx : ExS P σ ⟨none, op, T, pos, after, none⟩ w w') (h : WL P N ops R rest σ w') :
    WL P N ops R (⟨none, op, T, pos, after, none⟩ :: rest) σ w := fun a ha => wpList_plain rfl fun K hK => by
  unfold Oper.wp
  rw [hx a.eval ha.agrees]
  exact hK _ _ (h _ ha)
theorem wl_go {dst : Option Nat} {j : Nat} {pol : Bool} {oj : Oper} {t : Nat} (hj : ops[j]? = some oj) (ht : oj.dst = some t) (hv : σ.get t = some (.bool pol)) (hN : Nat.blt t N.1 = true)
    (h : WL P N ops R (⟨dst, op, T, pos, after, none⟩ :: rest) σ w) : WL P N ops R (⟨dst, op, T, pos, after, some (j, pol)⟩ :: rest) σ w := fun a ha => by
  have h1 := h a ha
  have hg : Region.wanted (⟨dst, op, T, pos, after, some (j, pol)⟩ : Oper) (yielded ops a.tmps) = true := by
    have hs : t < a.tmps.size := by rw [ha.1]; exact of_decide_eq_true (by simpa using hN)
    have := ha.2.2 t _ hv
    simp only [Array.getD_eq_getD_getElem?, Array.getElem?_eq_getElem hs, Option.getD_some] at this
    simp [Region.wanted, yielded, hj, ht, Array.getElem?_eq_getElem hs, this]
  unfold wpList at h1 ⊢
  rw [if_pos hg]
  rw [if_pos (by simp [Region.wanted])] at h1
  exact h1
theorem wl_no {j : Nat} {pol b : Bool} {oj : Oper} {t : Nat} (hj : ops[j]? = some oj) (ht : oj.dst = some t) (hv : σ.get t = some (.bool b)) (hb : b = !pol) (hN : Nat.blt t N.1 = true) (hd : Nat.blt d N.1 = true)
    (h : WL P N ops R rest ((d, undef) :: σ) w) : WL P N ops R (⟨some d, op, T, pos, after, some (j, pol)⟩ :: rest) σ w := fun a ha => by
  have hg : Region.wanted (⟨some d, op, T, pos, after, some (j, pol)⟩ : Oper) (yielded ops a.tmps) = false := by
    have hs : t < a.tmps.size := by rw [ha.1]; exact of_decide_eq_true (by simpa using hN)
    have := ha.2.2 t _ hv
    simp only [Array.getD_eq_getD_getElem?, Array.getElem?_eq_getElem hs, Option.getD_some] at this
    subst hb
    cases pol <;> simp [Region.wanted, yielded, hj, ht, Array.getElem?_eq_getElem hs, this]
  unfold wpList
  rw [if_neg (by rw [hg]; simp)]
  exact h _ (ha.put (of_decide_eq_true (by simpa using hd)) _)
theorem bQ {l : List Oper} {t : Nat} {p : Prop} [Decidable p] (hv : σ.get t = some (.bool (decide p))) (ht : p → WL P N ops R l ((t, .bool true) :: σ) w) (hf : ¬ p → WL P N ops R l ((t, .bool false) :: σ) w) : WL P N ops R l σ w := by
  intro a ha
  by_cases h : p
  · refine ht h a ⟨ha.1, ha.2.1, fun u v hu => ?_⟩
    simp only [Env.get] at hu
    cases hb : Nat.beq t u with
    | true =>
      rw [hb] at hu
      have : t = u := Nat.eq_of_beq_eq_true hb
      subst this
      simp only [cond_true, Option.some.injEq] at hu
      rw [← hu, ha.2.2 t _ hv, decide_eq_true h]
    | false => rw [hb] at hu; exact ha.2.2 u v hu
  · refine hf h a ⟨ha.1, ha.2.1, fun u v hu => ?_⟩
    simp only [Env.get] at hu
    cases hb : Nat.beq t u with
    | true =>
      rw [hb] at hu
      have : t = u := Nat.eq_of_beq_eq_true hb
      subst this
      simp only [cond_true, Option.some.injEq] at hu
      rw [← hu, ha.2.2 t _ hv, decide_eq_false h]
    | false => rw [hb] at hu; exact ha.2.2 u v hu
theorem hX {l : List Oper} {t : Nat} {b : Bool} (hv : σ.get t = some (.bool b)) (ht : b = true → WL P N ops R l ((t, .bool true) :: σ) w) (hf : b = false → WL P N ops R l ((t, .bool false) :: σ) w) : WL P N ops R l σ w := by
  have hv' : σ.get t = some (.bool (decide (b = true))) := by rw [hv]; cases b <;> rfl
  exact bQ hv' ht (fun h => hf (by simpa using h))
theorem wl_call {dst : Option Nat} {f : FuncId} {xs : Array Operand} {ats : Array TypeId} {vs : List Value} {Φ : Value → World → Prop} (hgo : dC P f) (hxs : xs.toList.map σ.ev = vs.map some)
    (hc : Calls P f vs.toArray w (Ret Φ)) (hd : ∀ k, dst = some k → Nat.blt k N.1 = true)
    (h : ∀ v w', Φ v w' → WL P N ops R rest (match dst with | some k => (k, v) :: σ | none => σ) w') :
    WL P N ops R (⟨dst, .call ⟨.value (.func f), xs, ats⟩, T, pos, after, none⟩ :: rest) σ w := fun a ha => wpList_plain rfl fun K hK => by
  have hargs : xs.map a.eval = vs.toArray := by
    apply Array.ext'
    rw [Array.toList_map]
    have hag := ha.agrees
    clear hK hc h ha
    generalize xs.toList = l at *
    clear xs
    revert vs
    induction l with
    | nil => intro vs hxs; cases vs with | nil => rfl | cons _ _ => simp at hxs
    | cons x l ih =>
      intro vs hxs
      cases vs with
      | nil => simp at hxs
      | cons v vs =>
        simp only [List.map_cons, List.cons.injEq] at hxs
        simp only [List.map_cons, hag x v hxs.1]
        exact congrArg _ (ih hxs.2)
  obtain ⟨fn, hf, hn, hbd⟩ := hgo
  unfold Oper.wp
  have hrun : (execOp a.eval ⟨dst, .call ⟨.value (.func f), xs, ats⟩, T, pos, after, none⟩).run P w = .ok (.enter f vs.toArray) w := by
    have hn' : ¬ fn.name = "runtime.NumGoroutine" := by simpa using hn
    have hb' : ¬ fn.body = none := by intro hh; simp [hh] at hbd
    simp only [execOp, resolve, hargs]
    simp [Act.eval, Deferred.ofValue, invoke, callFunc, hf, hn', hb']
  rw [hrun]
  show Calls P f vs.toArray w _
  refine hc.mono ?_
  rintro e w' ⟨v, rfl, hΦ⟩
  cases dst with
  | none => exact hK _ _ (h v w' hΦ a ha)
  | some k => exact hK _ _ (h v w' hΦ _ (ha.put (of_decide_eq_true (by simpa using hd k rfl)) v))
end
section
variable {P : Program} {σ : Env} {w : World} {dst : Option Nat} {T : TypeId} {pos : String} {after : Array Edge} {g : Option (Nat × Bool)}
theorem aV {x : Operand} {v : Value} (hx : σ.ev x = some v) : Ex P σ ⟨dst, .move x, T, pos, after, g⟩ w v w := fun ρ h => by
  simp [execOp, h x v hx]
theorem fB {x : Operand} {v : Value} (hx : σ.ev x = some v) : Ex P σ ⟨dst, .assign x, T, pos, after, g⟩ w v w := fun ρ h => by
  simp [execOp, h x v hx]
theorem dN {c x y : Operand} {v : Value} (hc : σ.ev c = some (.bool true)) (hx : σ.ev x = some v) : Ex P σ ⟨dst, .pick c x y, T, pos, after, g⟩ w v w := fun ρ h => by
  simp [execOp, h c _ hc, h x v hx, asBool]
theorem dO {c x y : Operand} {v : Value} (hc : σ.ev c = some (.bool false)) (hx : σ.ev y = some v) : Ex P σ ⟨dst, .pick c x y, T, pos, after, g⟩ w v w := fun ρ h => by
  simp [execOp, h c _ hc, h y v hx, asBool]
theorem lK {x : Operand} {t : TypeId} {p : Prop} [Decidable p] (hx : σ.ev x = some (.bool (decide p))) : Ex P σ ⟨dst, .unOp .not t x, T, pos, after, g⟩ w (.bool (decide (¬ p))) w := fun ρ h => by
  simp [execOp, h x _ hx, Op.unary]
theorem eI {x : Operand} {t : TypeId} {b : Bool} (hx : σ.ev x = some (.bool b)) : Ex P σ ⟨dst, .unOp .not t x, T, pos, after, g⟩ w (.bool (!b)) w := fun ρ h => by
  simp [execOp, h x _ hx, Op.unary]
theorem jD {bop : BinOp} {x y : Operand} {t t' : TypeId} {k : IntKind} {m n : Int} {v : Value} (hop : ∀ w : World, (Go.binOp bop t (.int k m) (.int k n)).run P w = .ok v w)
    (hx : σ.ev x = some (.int k m)) (hy : σ.ev y = some (.int k n)) : Ex P σ ⟨dst, .binOp bop t x y t', T, pos, after, g⟩ w v w := fun ρ h => by
  simp only [execOp, h x _ hx, h y _ hy]
  cases bop <;> simp [eqGuard, hop]
theorem oB {k : IntKind} {n : Int} (h : k.min ≤ n) (h' : n ≤ k.max) : k.wrap n = n := by
  cases k <;> simp only [IntKind.wrap, IntKind.min, IntKind.max, IntKind.bits, IntKind.signed] at * <;> simp at * <;> (try split) <;> omega
theorem ex_add {x y : Operand} {t t' : TypeId} {k : IntKind} {m n : Int} (hx : σ.ev x = some (.int k m)) (hy : σ.ev y = some (.int k n)) (h1 : k.min ≤ m + n) (h2 : m + n ≤ k.max) :
    Ex P σ ⟨dst, .binOp .add t x y t', T, pos, after, g⟩ w (.int k (m + n)) w := jD (fun w => by simp [Go.binOp, Op.intArith, oB h1 h2]) hx hy
theorem ex_sub {x y : Operand} {t t' : TypeId} {k : IntKind} {m n : Int} (hx : σ.ev x = some (.int k m)) (hy : σ.ev y = some (.int k n)) (h1 : k.min ≤ m - n) (h2 : m - n ≤ k.max) :
    Ex P σ ⟨dst, .binOp .sub t x y t', T, pos, after, g⟩ w (.int k (m - n)) w := jD (fun w => by simp [Go.binOp, Op.intArith, oB h1 h2]) hx hy
theorem ex_mul {x y : Operand} {t t' : TypeId} {k : IntKind} {m n : Int} (hx : σ.ev x = some (.int k m)) (hy : σ.ev y = some (.int k n)) (h1 : k.min ≤ m * n) (h2 : m * n ≤ k.max) :
    Ex P σ ⟨dst, .binOp .mul t x y t', T, pos, after, g⟩ w (.int k (m * n)) w := jD (fun w => by simp [Go.binOp, Op.intArith, oB h1 h2]) hx hy
theorem FV {x y : Operand} {t t' : TypeId} {k : IntKind} {m n : Int} (hx : σ.ev x = some (.int k m)) (hy : σ.ev y = some (.int k n)) :
    Ex P σ ⟨dst, .binOp .add t x y t', T, pos, after, g⟩ w (.int k (k.wrap (m + n))) w := jD (fun w => by simp [Go.binOp, Op.intArith]) hx hy
theorem wT {x y : Operand} {t t' : TypeId} {k : IntKind} {m n : Int} (hx : σ.ev x = some (.int k m)) (hy : σ.ev y = some (.int k n)) :
    Ex P σ ⟨dst, .binOp .sub t x y t', T, pos, after, g⟩ w (.int k (k.wrap (m - n))) w := jD (fun w => by simp [Go.binOp, Op.intArith]) hx hy
theorem ex_mulw {x y : Operand} {t t' : TypeId} {k : IntKind} {m n : Int} (hx : σ.ev x = some (.int k m)) (hy : σ.ev y = some (.int k n)) :
    Ex P σ ⟨dst, .binOp .mul t x y t', T, pos, after, g⟩ w (.int k (k.wrap (m * n))) w := jD (fun w => by simp [Go.binOp, Op.intArith]) hx hy
theorem qA {x y : Operand} {t t' : TypeId} {k : IntKind} {m n : Int} (hx : σ.ev x = some (.int k m)) (hy : σ.ev y = some (.int k n)) :
    Ex P σ ⟨dst, .binOp .eql t x y t', T, pos, after, g⟩ w (.bool (decide (m = n))) w := jD (fun w => by simp only [Go.binOp, Op.intCmp]; simp; rw [Bool.eq_iff_iff]; simp) hx hy
theorem eO {x y : Operand} {t t' : TypeId} {k : IntKind} {m n : Int} (hx : σ.ev x = some (.int k m)) (hy : σ.ev y = some (.int k n)) :
    Ex P σ ⟨dst, .binOp .neq t x y t', T, pos, after, g⟩ w (.bool (decide (m ≠ n))) w := jD (fun w => by simp only [Go.binOp, Op.intCmp]; simp; rw [Bool.eq_iff_iff]; simp) hx hy
theorem cE {x y : Operand} {t t' : TypeId} {k : IntKind} {m n : Int} (hx : σ.ev x = some (.int k m)) (hy : σ.ev y = some (.int k n)) :
    Ex P σ ⟨dst, .binOp .lss t x y t', T, pos, after, g⟩ w (.bool (decide (m < n))) w := jD (fun w => by simp [Go.binOp, Op.intCmp]) hx hy
theorem eP {x y : Operand} {t t' : TypeId} {k : IntKind} {m n : Int} (hx : σ.ev x = some (.int k m)) (hy : σ.ev y = some (.int k n)) :
    Ex P σ ⟨dst, .binOp .leq t x y t', T, pos, after, g⟩ w (.bool (decide (m ≤ n))) w := jD (fun w => by simp [Go.binOp, Op.intCmp]) hx hy
theorem eQ {x y : Operand} {t t' : TypeId} {k : IntKind} {m n : Int} (hx : σ.ev x = some (.int k m)) (hy : σ.ev y = some (.int k n)) :
    Ex P σ ⟨dst, .binOp .gtr t x y t', T, pos, after, g⟩ w (.bool (decide (n < m))) w := jD (fun w => by simp [Go.binOp, Op.intCmp]) hx hy
theorem fF {x y : Operand} {t t' : TypeId} {k : IntKind} {m n : Int} (hx : σ.ev x = some (.int k m)) (hy : σ.ev y = some (.int k n)) :
    Ex P σ ⟨dst, .binOp .geq t x y t', T, pos, after, g⟩ w (.bool (decide (n ≤ m))) w := jD (fun w => by simp [Go.binOp, Op.intCmp]) hx hy
theorem aT {x y : Operand} {t t' : TypeId} {m n : Int} (hx : σ.ev x = some (.int .i64 m)) (hy : σ.ev y = some (.int .i64 n)) (h1 : -9223372036854775808 ≤ m + n) (h2 : m + n ≤ 9223372036854775807) :
    Ex P σ ⟨dst, .binOp .add t x y t', T, pos, after, g⟩ w (.int .i64 (m + n)) w := ex_add hx hy h1 h2
theorem aX {x y : Operand} {t t' : TypeId} {m n : Int} (hx : σ.ev x = some (.int .i64 m)) (hy : σ.ev y = some (.int .i64 n)) (h1 : -9223372036854775808 ≤ m - n) (h2 : m - n ≤ 9223372036854775807) :
    Ex P σ ⟨dst, .binOp .sub t x y t', T, pos, after, g⟩ w (.int .i64 (m - n)) w := ex_sub hx hy h1 h2
theorem nV {x y : Operand} {t t' : TypeId} {m n : Int} (hx : σ.ev x = some (.int .i64 m)) (hy : σ.ev y = some (.int .i64 n)) (h1 : -9223372036854775808 ≤ m * n) (h2 : m * n ≤ 9223372036854775807) :
    Ex P σ ⟨dst, .binOp .mul t x y t', T, pos, after, g⟩ w (.int .i64 (m * n)) w := ex_mul hx hy h1 h2
theorem aP {x : Operand} {ats : Array TypeId} {t e : TypeId} {a : Option Addr} {n c : Nat} (hx : σ.ev x = some (.slice a n c)) (ht : P.underlying t = some (.slice e)) (hats : ats = #[t]) :
    Ex P σ ⟨dst, .call ⟨.builtin .len, #[x], ats⟩, T, pos, after, g⟩ w (.int .i64 n) w := fun ρ h => by
  subst hats
  simp [execOp, resolve, h x _ hx, invoke, builtin, Builtin.len_, run_underlying ht, goInt]
theorem dW {x : Operand} {ats : Array TypeId} {t : TypeId} {s : ByteArray} (hx : σ.ev x = some (.string s)) (ht : P.underlying t = some .string) (hats : ats = #[t]) :
    Ex P σ ⟨dst, .call ⟨.builtin .len, #[x], ats⟩, T, pos, after, g⟩ w (.int .i64 s.size) w := fun ρ h => by
  subst hats
  simp [execOp, resolve, h x _ hx, invoke, builtin, Builtin.len_, run_underlying ht, goInt]
theorem aH {x : Operand} {a : Addr} (hx : σ.ev x = some (.pointer (some a))) : Ex P σ ⟨dst, .nilCheck x, T, pos, after, g⟩ w (.pointer (some a)) w := fun ρ h => by
  simp [execOp, h x _ hx]
theorem aA {x : Operand} {s : TypeId} {i off b o : Nat} (hx : σ.ev x = some (.pointer (some ⟨b, o, none⟩))) (hf : dV P s i = some off) :
    Ex P σ ⟨dst, .fieldAddr s x i, T, pos, after, g⟩ w (.pointer (some ⟨b, o + off, none⟩)) w := fun ρ h => by
  simp only [dV] at hf
  split at hf <;> try cases hf
  rename_i fs hu
  split at hf <;> try cases hf
  rename_i f hfs
  split at hf <;> try cases hf
  rename_i n hn
  split at hf <;> try cases hf
  rename_i hsz
  have ha : (⟨b, o, none⟩ : Addr).add f.offset = ⟨b, o + f.offset, none⟩ := by unfold Addr.add; split <;> simp_all
  simp [execOp, h x _ hx, Instr.fieldAt, run_underlying hu, hfs, Instr.sureAddr, fieldPlace, sizeOf, typeInfo, hn, hsz, ha]
theorem cS {x i : Operand} {t : TypeId} {k : IntKind} {n sz b o len c : Nat} (hx : σ.ev x = some (.slice (some ⟨b, o, none⟩) len c)) (hi : σ.ev i = some (.int k n)) (he : jE P t = some sz) (hlt : n < len) :
    Ex P σ ⟨dst, .indexAddr t x i, T, pos, after, g⟩ w (.pointer (some ⟨b, o + n * sz, none⟩)) w := fun ρ h => by
  simp only [jE] at he
  split at he <;> try cases he
  rename_i e hu
  obtain ⟨inf, hin, hsz⟩ := Option.map_eq_some_iff.1 he
  have ha : (⟨b, o, none⟩ : Addr).add (n * sz) = ⟨b, o + n * sz, none⟩ := by unfold Addr.add; split <;> simp_all
  simp [execOp, h x _ hx, h i _ hi, Instr.indexAt, asIntOf, run_underlying hu, sizeOf, typeInfo, hin, hsz, hlt, ha]
theorem kW {t : TypeId} {b : Bool} (ht : hD P t = some b) (w : World) : (isAgg t).run P w = .ok b w := by
  obtain ⟨d, hd, hb⟩ := Option.map_eq_some_iff.1 ht
  subst hb
  cases d <;> simp [isAgg, run_underlying hd]
theorem aF {x : Operand} {t : TypeId} {b o : Nat} {v : Value} (hx : σ.ev x = some (.pointer (some ⟨b, o, none⟩))) (ht : hD P t = some false) (hc : w.cell? ⟨b, o, none⟩ = some v) :
    Ex P σ ⟨dst, .load t x, T, pos, after, g⟩ w v w := fun ρ h => by
  simp [execOp, h x _ hx, Instr.loadAt, Instr.sureAddr, loadVar, kW ht, hc]
theorem jS {b o : Nat} {cs : Array Value} {t : TypeId} {fz : Nat × Nat} {v : Value} (hb : w.heap[b]? = some (.cells cs t fz)) (hv : cs[o]? = some v) : w.cell? ⟨b, o, none⟩ = some v := by
  simp [World.cell?, hb, hv]
def nth : List Value → Nat → Option Value
  | [], _ => none
  | a :: _, 0 => some a
  | _ :: l, n + 1 => nth l n
theorem KD : ∀ (l : List Value) (n : Nat), nth l n = l[n]?
  | [], _ => by simp [nth]
  | _ :: _, 0 => by simp [nth]
  | _ :: l, n + 1 => by simp [nth, KD l n]
theorem aK {b o : Nat} {cs : Array Value} {t : TypeId} {fz : Nat × Nat} {v : Value} (hb : w.heap[b]? = some (.cells cs t fz)) (hv : nth cs.toList o = some v) : w.cell? ⟨b, o, none⟩ = some v :=
  jS hb (by rw [KD] at hv; simpa using hv)
theorem gF (b o : Nat) : ∀ (n i : Nat) (acc : Array Value) (vs : List Value), vs.length = n → (∀ j v, vs[j]? = some v → w.cell? ⟨b, o + (i + j), none⟩ = some v) →
    (loadCellsFrom ⟨b, o, none⟩ i n acc).run P w = .ok (acc ++ vs.toArray) w := by
  intro n
  induction n with
  | zero => intro i acc vs hl _; have : vs = [] := List.eq_nil_of_length_eq_zero hl; subst this; simp [loadCellsFrom]
  | succ n ih =>
    intro i acc vs hl hc
    cases vs with
    | nil => simp at hl
    | cons v vs =>
      have h0 := hc 0 v (by simp)
      have hadd : (⟨b, o, none⟩ : Addr).add i = ⟨b, o + (i + 0), none⟩ := by unfold Addr.add; split <;> simp_all
      have := ih (i + 1) (acc.push v) vs (by simpa using hl) (fun j u hu => by have := hc (j + 1) u (by simpa using hu); rw [show i + 1 + j = i + (j + 1) from by omega]; exact this)
      simp only [Nat.add_zero] at h0 hadd
      simp [loadCellsFrom, hadd, h0, this]
theorem dQ {x : Operand} {t : TypeId} {b o n : Nat} {vs : List Value} (hx : σ.ev x = some (.pointer (some ⟨b, o, none⟩))) (ht : hD P t = some true) (hs : eS P t = some n) (hl : vs.length = n)
    (hc : ∀ j v, vs[j]? = some v → w.cell? ⟨b, o + j, none⟩ = some v) : Ex P σ ⟨dst, .load t x, T, pos, after, g⟩ w (.agg vs.toArray) w := fun ρ h => by
  obtain ⟨inf, hin, hsz⟩ := Option.map_eq_some_iff.1 hs
  have hr := gF (P := P) (w := w) b o n 0 #[] vs hl (fun j v hv => by simpa using hc j v hv)
  simp [execOp, h x _ hx, Instr.loadAt, Instr.sureAddr, loadVar, kW ht, sizeOf, typeInfo, hin, hsz, loadCells, hr]
end
section
variable {P : Program} {σ : Env} {w : World} {dst : Option Nat} {T : TypeId} {pos : String} {after : Array Edge} {g : Option (Nat × Bool)}
theorem ex_neqA {x y : Operand} {t t' : TypeId} {xs ys : Array Value} {p : Prop} [Decidable p] (hx : σ.ev x = some (.agg xs)) (hy : σ.ev y = some (.agg ys)) (hq : P.eqGuardType P.depth t = false)
    (hr : ∀ w, (Op.equal t (.agg xs) (.agg ys)).run P w = .ok (decide p) w) : Ex P σ ⟨dst, .binOp .neq t x y t', T, pos, after, g⟩ w (.bool (decide (¬ p))) w := fun ρ h => by
  simp [execOp, h x _ hx, h y _ hy, eqGuard, hq, Go.binOp, hr]
end
theorem GQ {P : Program} {t : TypeId} {cs : Array Value} {off : Nat} {v : Value} (w : World) (ht : hD P t = some false) (hv : cs[off]? = some v) : (part t cs off).run P w = .ok v w := by
  simp [part, kW ht, hv]
def oA (P : Program) (t : TypeId) : Option (Array Value) := ((P.info? t).bind (·.zero)).map Value.cells
theorem set_row (cs : Array Value) (o : Nat) (v : Value) (h : o < cs.size) : (cs.toList.take o ++ #[v].toList ++ cs.toList.drop (o + 1)).toArray = cs.setIfInBounds o v := by
  apply Array.toList_inj.1
  simp [List.set_eq_take_append_cons_drop, h]
theorem lA (w : World) (o : Obj) : (w.alloc o).heap[w.heap.size]? = some o := heap_alloc_new w o
theorem lX {P : Program} (b : Nat) (t : TypeId) : ∀ (vs : List Value) (o i : Nat) (cs : Array Value) (w : World), w.heap[b]? = some (.cells cs t (0, 0)) → o + i + vs.length ≤ cs.size → (∀ v, v ∈ vs → v.oneCell' = true) →
    ∃ w', (storeCells ⟨b, o, none⟩ vs i).run P w = .ok () w' ∧ w'.heap[b]? = some (.cells (cs.toList.take (o + i) ++ vs ++ cs.toList.drop (o + i + vs.length)).toArray t (0, 0)) ∧ Evo [b] w w' := by
  intro vs
  induction vs with
  | nil => intro o i cs w hb _ _; exact ⟨w, by simp [storeCells], by simpa using hb, Evo.refl _ _⟩
  | cons v vs ih =>
    intro o i cs w hb hle h1
    have hadd : (⟨b, o, none⟩ : Addr).add i = ⟨b, o + i, none⟩ := by unfold Addr.add; split <;> simp_all
    have hlt : o + i < cs.size := by simp at hle; omega
    have hc : w.cell? ⟨b, o + i, none⟩ = some cs[o + i] := jS hb (by simp [hlt])
    have hfz : w.frozen? ⟨b, o + i, none⟩ = false := by simp [World.frozen?, hb]
    have hb1 : (w.setCell ⟨b, o + i, none⟩ v).heap[b]? = some (.cells (cs.setIfInBounds (o + i) v) t (0, 0)) := by
      simp only [World.setCell, Array.getElem?_modify, if_true, hb, Option.map_some]; rfl
    obtain ⟨w', hr, hb', he⟩ := ih o (i + 1) _ _ hb1 (by simp at hle ⊢; omega) (fun u hu => h1 u (List.mem_cons_of_mem _ hu))
    refine ⟨w', ?_, ?_, (mH w ⟨b, o + i, none⟩ v).trans he⟩
    · simp [storeCells, hadd, run_store P w _ v .plain (h1 v (by simp)), hc, hfz, hr]
    · rw [hb']
      congr 3
      apply List.ext_getElem?
      intro j
      simp only [Array.toList_setIfInBounds, List.append_assoc, List.getElem?_append, List.length_take, List.length_set, Array.length_toList, List.getElem?_take, List.getElem?_drop, List.length_cons, List.getElem?_set]
      by_cases h2 : j < o + i
      · simp [h2, show j < o + (i + 1) by omega, show j < min (o + (i + 1)) cs.size by omega, show j < min (o + i) cs.size by omega, show ¬ o + i = j by omega]
      · by_cases h3 : j = o + i
        · subst h3
          simp [show o + i < o + (i + 1) by omega, show o + i < min (o + (i + 1)) cs.size by omega, show ¬ (o + i < min (o + i) cs.size) by omega, hlt, show o + i - min (o + i) cs.size = 0 by omega]
        · simp only [show ¬ j < min (o + (i + 1)) cs.size by omega, show ¬ j < min (o + i) cs.size by omega, if_false]
          rw [show min (o + (i + 1)) cs.size = o + i + 1 by omega, show min (o + i) cs.size = o + i by omega]
          obtain ⟨m, rfl⟩ : ∃ m, j = o + i + 1 + m := ⟨j - (o + i + 1), by omega⟩
          rw [show o + i + 1 + m - (o + i + 1) = m by omega, show o + i + 1 + m - (o + i) = m + 1 by omega]
          simp only [List.getElem?_cons_succ, Nat.add_lt_add_iff_right, Nat.add_sub_add_right]
          split
          · rfl
          · rename_i h4
            rw [if_neg (by omega)]
            congr 1
            omega
section
variable {P : Program} {N : NN} {R : fJ} {σ : Env} {w : World} {ops : Array Oper} {rest : List Oper} {d : Nat} {T : TypeId} {pos : String} {after : Array Edge}
theorem cV {x : Operand} {t U : TypeId} {b n : Nat} {cs : Array Value} {fz : Nat × Nat} {dst : Option Nat} {g : Option (Nat × Bool)} (hx : σ.ev x = some (.pointer (some ⟨b, 0, none⟩))) (ht : hD P t = some true) (hs : eS P t = some n)
    (hb : w.heap[b]? = some (.cells cs U fz)) (hl : cs.size = n) : Ex P σ ⟨dst, .load t x, T, pos, after, g⟩ w (.agg cs) w := by
  have := dQ (P := P) (σ := σ) (w := w) (dst := dst) (T := T) (pos := pos) (after := after) (g := g) (vs := cs.toList) hx ht hs (by simpa using hl) (fun j v hv => jS hb (by simpa using hv))
  simpa using this
theorem wl_box {e : TypeId} {x : Operand} {v : Value} {cs : Array Value} (hd : Nat.blt d N.1 = true) (hx : σ.ev x = some v) (hc : v.cells = cs)
    (h : ∀ b w', w'.heap[b]? = some (.cells cs e (0, 0)) → w.heap.size = b → Evo [] w w' → WL P N ops R rest ((d, .pointer (some ⟨b, 0, none⟩)) :: σ) w') :
    WL P N ops R (⟨some d, .box e x, T, pos, after, none⟩ :: rest) σ w := by
  subst hc
  refine gD (w' := w.alloc (.cells v.cells e)) hd (fun ρ ha => ?_) (h _ _ (lA w _) rfl (iH w _))
  simp [execOp, ha x v hx, Instr.box, newVar, newRow]
theorem dZ {e : TypeId} {x : Operand} {cs : Array Value} (hd : Nat.blt d N.1 = true) (hx : σ.ev x = some (.agg cs))
    (h : ∀ b w', w'.heap[b]? = some (.cells cs e (0, 0)) → w.heap.size = b → Evo [] w w' → WL P N ops R rest ((d, .pointer (some ⟨b, 0, none⟩)) :: σ) w') :
    WL P N ops R (⟨some d, .box e x, T, pos, after, none⟩ :: rest) σ w := wl_box hd hx rfl h
theorem dE {e : TypeId} {cs : Array Value} (hd : Nat.blt d N.1 = true) (hz : oA P e = some cs)
    (h : ∀ b w', w'.heap[b]? = some (.cells cs e (0, 0)) → w.heap.size = b → Evo [] w w' → WL P N ops R rest ((d, .pointer (some ⟨b, 0, none⟩)) :: σ) w') :
    WL P N ops R (⟨some d, .alloc e, T, pos, after, none⟩ :: rest) σ w := by
  obtain ⟨v, hv, rfl⟩ := Option.map_eq_some_iff.1 hz
  obtain ⟨i, hi, hz'⟩ := Option.bind_eq_some_iff.1 hv
  refine gD (w' := w.alloc (.cells v.cells e)) hd (fun ρ _ => ?_) (h _ _ (lA w _) rfl (iH w _))
  simp [execOp, Instr.alloc, zeroValue, typeInfo, hi, hz', newVar, newRow]
theorem pP {t U : TypeId} {x y : Operand} {v : Value} {b o n : Nat} {cs : Array Value} (hx : σ.ev x = some (.pointer (some ⟨b, o, none⟩))) (hy : σ.ev y = some v) (hs : eS P t = some n) (hn : v.cells.size = n)
    (h1 : ∀ u, u ∈ v.cells.toList → u.oneCell' = true) (hb : w.heap[b]? = some (.cells cs U (0, 0))) (hle : o + n ≤ cs.size)
    (h : ∀ w', w'.heap[b]? = some (.cells (cs.toList.take o ++ v.cells.toList ++ cs.toList.drop (o + n)).toArray U (0, 0)) → Evo [b] w w' → WL P N ops R rest σ w') :
    WL P N ops R (⟨none, .store t x y, T, pos, after, none⟩ :: rest) σ w := by
  obtain ⟨i, hi, hsz⟩ := Option.map_eq_some_iff.1 hs
  obtain ⟨w', hr, hb', he⟩ := lX (P := P) b U v.cells.toList o 0 cs w hb (by simpa [hn] using hle) h1
  refine wA (w' := w') (fun ρ ha => ?_) (h w' (by simpa [hn] using hb') he)
  simp [execOp, ha x _ hx, ha y _ hy, Instr.storeAt, Instr.sureAddr, storeVar, sizeOf, typeInfo, hi, hsz, hn, hr]
theorem bE {t U : TypeId} {x y : Operand} {v : Value} {b o : Nat} {cs : Array Value} (hx : σ.ev x = some (.pointer (some ⟨b, o, none⟩))) (hy : σ.ev y = some v) (h1 : v.oneCell' = true) (hs : eS P t = some 1)
    (hb : w.heap[b]? = some (.cells cs U (0, 0))) (hle : Nat.blt o cs.size = true)
    (h : ∀ w', w'.heap[b]? = some (.cells (cs.setIfInBounds o v) U (0, 0)) → Evo [b] w w' → WL P N ops R rest σ w') :
    WL P N ops R (⟨none, .store t x y, T, pos, after, none⟩ :: rest) σ w := by
  have hc : v.cells = #[v] := by cases v <;> first | rfl | cases h1
  have hlt : o < cs.size := of_decide_eq_true (by simpa using hle)
  refine pP hx hy hs (by simp [hc]) (by simp [hc, h1]) hb (by omega) (fun w' hb' he => h w' ?_ he)
  rw [hb', hc]
  have e := set_row cs o v hlt
  simp only at e ⊢
  rw [e]
def AllOne : List Value → Prop
  | [] => True
  | v :: r => v.oneCell' = true ∧ AllOne r
theorem AllOne.mem {l : List Value} (h : AllOne l) : ∀ u, u ∈ l → u.oneCell' = true := by
  induction l with
  | nil => intro u hu; cases hu
  | cons v l ih =>
    intro u hu
    rcases List.mem_cons.1 hu with rfl | hu
    · exact h.1
    · exact ih h.2 u hu
theorem bT {t U : TypeId} {x y : Operand} {b n : Nat} {cs vs : Array Value} (hx : σ.ev x = some (.pointer (some ⟨b, 0, none⟩))) (hy : σ.ev y = some (.agg vs)) (hs : eS P t = some n)
    (hb : w.heap[b]? = some (.cells cs U (0, 0))) (hn : vs.size = n) (hn' : cs.size = n) (h1 : AllOne vs.toList)
    (h : ∀ w', w'.heap[b]? = some (.cells vs U (0, 0)) → Evo [b] w w' → WL P N ops R rest σ w') :
    WL P N ops R (⟨none, .store t x y, T, pos, after, none⟩ :: rest) σ w := by
  refine pP hx hy hs hn (fun u hu => h1.mem u hu) hb (by omega) (fun w' hb' he => h w' ?_ he)
  rw [hb']
  simp only [List.take_zero, List.nil_append, Nat.zero_add]
  rw [List.drop_of_length_le (by simp; omega)]
  simp [Value.cells]
end
def CellsAt (w : World) (b o : Nat) (vs : List Value) : Prop := ∀ j v, vs[j]? = some v → w.cell? ⟨b, o + j, none⟩ = some v
theorem CellsAt.evo {X : List Nat} {w w' : World} {b o : Nat} {vs : List Value} (h : CellsAt w b o vs) (he : Evo X w w') (hb : b ∉ X) : CellsAt w' b o vs := fun j v hv => he.cell (h j v hv) hb
def intB (P : Program) (t : TypeId) : Option Bool := (P.underlying t).map fun | .int _ => true | _ => false
def Own (w : World) (e : TypeId) (sz : Nat) (v : Value) (n : Nat) (xs : List Value) (ob : Option Nat) : Prop :=
  xs.length = n * sz ∧ ((v = .slice none 0 0 ∧ n = 0 ∧ ob = none) ∨
    ∃ g cap cur, ob = some g ∧ v = .slice (some ⟨g, 0, none⟩) n cap ∧ w.heap[g]? = some (.cells cur e (0, 0)) ∧ n ≤ cap ∧ cap ≤ maxLen ∧ cur.size = cap * sz ∧ cur.toList.take (n * sz) = xs)
structure Src (P : Program) (w : World) (sz : Nat) (x : Value) (m : Nat) (news : List Value) : Prop where
  len : ∀ w2, (Builtin.lenOf x).run P w2 = .ok m w2
  cells : ∀ w2 : World, w2.heap = w.heap → (Builtin.firstCells sz m x).run P w2 = .ok news.toArray w2
  length : news.length = m * sz
  one : ∀ u, u ∈ news → u.oneCell' = true
theorem Src.slice {P : Program} {w : World} {sz b o m c : Nat} {news : List Value} (hl : news.length = m * sz) (hc : CellsAt w b o news) (h1 : ∀ u, u ∈ news → u.oneCell' = true) : Src P w sz (.slice (some ⟨b, o, none⟩) m c) m news :=
  ⟨fun _ => rfl, fun w2 h2 => run_firstCells_some (P := P) w2 sz m ⟨b, o, none⟩ m c news hl (fun j v hv => by
    have hadd : (⟨b, o, none⟩ : Addr).add j = ⟨b, o + j, none⟩ := by unfold Addr.add; split <;> simp_all
    rw [hadd, show w2.cell? ⟨b, o + j, none⟩ = w.cell? ⟨b, o + j, none⟩ from by simp [World.cell?, h2]]
    exact hc j v hv), hl, h1⟩
theorem CP {P : Program} {w : World} {t u ty e : TypeId} {i : TypeInfo} {z : Value} {sz bytes : Nat} (ht : P.underlying t = some (.slice e)) (hu : intB P u = some false) (hi : P.info? e = some i) (hz : i.zero = some z)
    (hsize : i.size = sz) (hby : i.bytes = bytes) (hb0 : 0 < bytes) (hzs : z.cells.size = sz) {v x : Value} {n m : Nat} {xs news : List Value} {ob : Option Nat} (hown : Own w e sz v n xs ob) (hsrc : Src P w sz x m news)
    (hbytes : (n + m) * bytes ≤ 140737488355328) :
    ∃ v' w' ob', (Builtin.append_ #[t, u] ty #[v, x]).run P w = .ok v' w' ∧ Own w' e sz v' (n + m) (xs ++ news) ob' ∧ Evo ob.toList w w' ∧ (ob' = ob ∨ ∃ g, ob' = some g ∧ w.heap.size ≤ g ∧ Evo [] w w') := by
  subst hsize hby
  obtain ⟨du, hdu, hdb⟩ := Option.map_eq_some_iff.1 hu
  have hmul : n + m ≤ (n + m) * i.bytes := Nat.le_mul_of_pos_right _ hb0
  have h63 : n + m ≤ 140737488355328 := Nat.le_trans hmul hbytes
  have hlen : (xs ++ news).length = (n + m) * i.size := by rw [List.length_append, hown.1, hsrc.length, Nat.add_mul]
  have hnz : ∀ k, du ≠ .int k := fun k hk => by subst hk; simp at hdb
  have grown : ∀ old, old < n + m → ∃ w', w' = w.drew.alloc (.cells (xs.toArray ++ news.toArray ++ Builtin.zeroCells z.cells (grownCap w (n + m) old e - (n + m))) e) ∧
      Own w' e i.size (.slice (some ⟨w.heap.size, 0, none⟩) (n + m) (grownCap w (n + m) old e)) (n + m) (xs ++ news) (some w.heap.size) ∧ Evo [] w w' := by
    intro old ho
    refine ⟨_, rfl, ⟨hlen, .inr ⟨w.heap.size, _, _, rfl, rfl, heap_alloc_new w.drew _, grownCap_ge w (n + m) old e, grownCap_le_maxLen w (n + m) old e (by unfold maxLen; omega), ?_, ?_⟩⟩, ⟨rfl, rfl, rfl, by simp, fun k hk _ => RowKit.Below.heap_alloc w.drew _ k hk, Nat.le_succ _⟩⟩
    · have hge := grownCap_ge w (n + m) old e
      simp only [Array.size_append, List.size_toArray, size_zeroCells, hzs, hown.1, hsrc.length, ← Nat.add_mul]
      congr 1
      omega
    · simp only [Array.toList_append, List.append_assoc]
      rw [← List.append_assoc, ← hlen]
      exact List.take_left
  rcases hown.2 with ⟨rfl, rfl, rfl⟩ | ⟨g, cap, cur, rfl, rfl, hg, hnc, hcm, hcs, htake⟩
  · have hx : xs = [] := List.eq_nil_of_length_eq_zero (by simpa using hown.1)
    subst hx
    by_cases hm : m = 0
    · subst hm
      have hn : news = [] := List.eq_nil_of_length_eq_zero (by simpa using hsrc.length)
      subst hn
      refine ⟨.slice none 0 0, w, none, ?_, ⟨by simp, .inl ⟨rfl, rfl, rfl⟩⟩, Evo.refl _ _, .inl rfl⟩
      have hc := hsrc.cells w rfl
      simp only [Builtin.append_, run_underlying ht, run_underlying hdu, sizeOf, typeInfo, hi, List.getElem?_toArray, List.getElem?_cons_zero, List.getElem?_cons_succ, Sem.run_bind, Sem.run_pure, Result.andThen_ok, run_program]
      simp [hi, hsrc.len, hc]
    · obtain ⟨w', hw', ho', he'⟩ := grown 0 (by omega)
      refine ⟨_, w', some w.heap.size, ?_, ho', he'.any _, .inr ⟨_, rfl, Nat.le_refl _, he'⟩⟩
      have hc := hsrc.cells w.drew rfl
      have hfit := growslice_fits (need := 0 + m) (old := 0) (by omega) hbytes
      simp only [Nat.zero_add] at hfit
      simp only [Builtin.append_, run_underlying ht, run_underlying hdu, sizeOf, typeInfo, hi, List.getElem?_toArray, List.getElem?_cons_zero, List.getElem?_cons_succ, Sem.run_bind, Sem.run_pure, Result.andThen_ok, run_program]
      simp [hi, hz, zeroValue, typeInfo, hsrc.len, hc, hm, show ¬ (9223372036854775807 < (m : Int)) by omega, show ¬ (281474976710656 < Builtin.nextslicecap m 0 * i.bytes) by omega, Question.forced, run_firstCells_none, newRow, grownCap, hw']
  · by_cases hroom : n + m ≤ cap
    · have hfit : n * i.size + 0 + news.length ≤ cur.size := by rw [hsrc.length, hcs, Nat.add_zero, ← Nat.add_mul]; exact Nat.mul_le_mul_right _ hroom
      obtain ⟨w', hr, hb', he'⟩ := lX (P := P) g e news (n * i.size) 0 cur w hg hfit hsrc.one
      refine ⟨.slice (some ⟨g, 0, none⟩) (n + m) cap, w', some g, ?_, ⟨hlen, .inr ⟨g, cap, _, rfl, rfl, hb', hroom, hcm, ?_, ?_⟩⟩, he', .inl rfl⟩
      · have hc := hsrc.cells w rfl
        have hadd : (⟨g, 0, none⟩ : Addr).add (n * i.size) = ⟨g, n * i.size, none⟩ := by unfold Addr.add; split <;> simp_all
        simp only [Builtin.append_, run_underlying ht, run_underlying hdu, sizeOf, typeInfo, hi, List.getElem?_toArray, List.getElem?_cons_zero, List.getElem?_cons_succ, Sem.run_bind, Sem.run_pure, Result.andThen_ok, run_program]
        simp [hi, hsrc.len, hc, hroom, hadd, hr]
      · simp only [List.size_toArray, List.length_append, List.length_take, List.length_drop, Array.length_toList]
        omega
      · simp only [Nat.add_zero] at htake ⊢
        rw [htake, ← hlen]
        exact List.take_left
    · obtain ⟨w', hw', ho', he'⟩ := grown cap (by omega)
      refine ⟨_, w', some w.heap.size, ?_, ho', he'.any _, .inr ⟨_, rfl, Nat.le_refl _, he'⟩⟩
      have hc := hsrc.cells w.drew rfl
      have hold := run_firstCells_some (P := P) w.drew i.size n ⟨g, 0, none⟩ n cap xs hown.1 (fun j v hv => by
        have hadd : (⟨g, 0, none⟩ : Addr).add j = ⟨g, j, none⟩ := by unfold Addr.add; split <;> simp_all
        rw [hadd]
        refine jS hg ?_
        rw [← htake, List.getElem?_take] at hv
        split at hv
        · simpa using hv
        · cases hv)
      have hfit := growslice_fits (need := n + m) (old := cap) (by omega) hbytes
      simp only [Builtin.append_, run_underlying ht, run_underlying hdu, sizeOf, typeInfo, hi, List.getElem?_toArray, List.getElem?_cons_zero, List.getElem?_cons_succ, Sem.run_bind, Sem.run_pure, Result.andThen_ok, run_program]
      simp [hi, hz, zeroValue, typeInfo, hsrc.len, hc, hold, hroom, show ¬ (9223372036854775807 < (n : Int) + (m : Int)) by omega, show ¬ (281474976710656 < Builtin.nextslicecap (n + m) cap * i.bytes) by omega, Question.forced, newRow, grownCap, hw']
      rw [← Array.append_assoc, show xs.toArray ++ news.toArray = (xs ++ news).toArray from by simp]
def OwnS (w : World) (e : TypeId) (sz : Nat) (a : Option Addr) (n c : Nat) (xs : List Value) (ob : Option Nat) : Prop := Own w e sz (.slice a n c) n xs ob
theorem OwnS.nil (w : World) (e : TypeId) (sz : Nat) : OwnS w e sz none 0 0 [] none := ⟨by simp, .inl ⟨rfl, rfl, rfl⟩⟩
theorem OwnS.lt {w : World} {e : TypeId} {sz : Nat} {a : Option Addr} {n c : Nat} {xs : List Value} {g : Nat} (h : OwnS w e sz a n c xs (some g)) : g < w.heap.size := by
  rcases h.2 with ⟨_, _, h⟩ | ⟨g', _, _, hg, _, hb, _⟩
  · cases h
  · cases hg; exact iJ hb
theorem OwnS.evo {X : List Nat} {w w' : World} {e : TypeId} {sz : Nat} {a : Option Addr} {n c : Nat} {xs : List Value} {ob : Option Nat} (h : OwnS w e sz a n c xs ob) (he : Evo X w w') (hx : ∀ g, ob = some g → g ∉ X) : OwnS w' e sz a n c xs ob := by
  refine ⟨h.1, ?_⟩
  rcases h.2 with h1 | ⟨g, cap, cur, hg, hv, hb, r⟩
  · exact .inl h1
  · exact .inr ⟨g, cap, cur, hg, hv, he.blk hb (hx g hg), r⟩
theorem OwnS.evo0 {w w' : World} {e : TypeId} {sz : Nat} {a : Option Addr} {n c : Nat} {xs : List Value} {ob : Option Nat} (h : OwnS w e sz a n c xs ob) (he : Evo [] w w') : OwnS w' e sz a n c xs ob := h.evo he (fun _ _ h => by cases h)
theorem OwnS.length {w : World} {e : TypeId} {sz : Nat} {a : Option Addr} {n c : Nat} {xs : List Value} {ob : Option Nat} (h : OwnS w e sz a n c xs ob) : xs.length = n * sz := h.1
theorem OwnS.le {w : World} {e : TypeId} {sz : Nat} {a : Option Addr} {n c : Nat} {xs : List Value} {ob : Option Nat} (h : OwnS w e sz a n c xs ob) : n ≤ c := by
  rcases h.2 with ⟨h1, rfl, _⟩ | ⟨g, cap, cur, _, hv, _, hn, _⟩
  · omega
  · cases hv; exact hn
theorem OwnS.at {w : World} {e : TypeId} {sz : Nat} {a : Option Addr} {n c : Nat} {xs : List Value} {ob : Option Nat} (h : OwnS w e sz a n c xs ob) (h0 : 0 < n) : ∃ g cur, ob = some g ∧ a = some ⟨g, 0, none⟩ ∧ w.heap[g]? = some (.cells cur e (0, 0)) ∧ cur.size = c * sz ∧ cur.toList.take (n * sz) = xs := by
  rcases h.2 with ⟨_, rfl, _⟩ | ⟨g, cap, cur, hg, hv, hb, hn, hc, hs, ht⟩
  · omega
  · cases hv; exact ⟨g, cur, hg, rfl, hb, hs, ht⟩
theorem OwnS.cells {w : World} {e : TypeId} {sz : Nat} {a : Option Addr} {n c : Nat} {xs : List Value} {ob : Option Nat} (h : OwnS w e sz a n c xs ob) (h0 : 0 < n) : ∃ g, ob = some g ∧ a = some ⟨g, 0, none⟩ ∧ CellsAt w g 0 xs := by
  obtain ⟨g, cur, hg, ha, hb, _, ht⟩ := h.at h0
  refine ⟨g, hg, ha, fun j v hv => jS hb ?_⟩
  rw [← ht, List.getElem?_take] at hv
  split at hv
  · simpa using hv
  · cases hv
def oU (P : Program) (t u : TypeId) : Option (TypeId × Nat × Nat) :=
  match P.underlying t with
  | some (.slice e) => match P.info? e with
    | some i => match i.zero with
      | some z => if z.cells.size = i.size ∧ 0 < i.bytes ∧ intB P u = some false then some (e, i.size, i.bytes) else none
      | none => none
    | none => none
  | _ => none
section
variable {P : Program} {N : NN} {R : fJ} {σ : Env} {w : World} {ops : Array Oper} {rest : List Oper} {d : Nat} {T : TypeId} {pos : String} {after : Array Edge}
theorem CH {s x : Operand} {t u e : TypeId} {ats : Array TypeId} {sz bytes n m c : Nat} {a : Option Addr} {vx : Value} {xs news : List Value} {ob : Option Nat} (hd : Nat.blt d N.1 = true) (hs : σ.ev s = some (.slice a n c)) (hx : σ.ev x = some vx) (hats : ats = #[t, u])
    (hf : oU P t u = some (e, sz, bytes)) (hown : OwnS w e sz a n c xs ob) (hsrc : Src P w sz vx m news) (hbytes : (n + m) * bytes ≤ 140737488355328)
    (h : ∀ a' c' w' ob', OwnS w' e sz a' (n + m) c' (xs ++ news) ob' → Evo ob.toList w w' → (ob' = ob ∨ ∃ g, ob' = some g ∧ w.heap.size ≤ g ∧ Evo [] w w') → WL P N ops R rest ((d, .slice a' (n + m) c') :: σ) w') :
    WL P N ops R (⟨some d, .call ⟨.builtin .append, #[s, x], ats⟩, T, pos, after, none⟩ :: rest) σ w := by
  subst hats
  simp only [oU] at hf
  split at hf <;> try cases hf
  rename_i e' ht
  split at hf <;> try cases hf
  rename_i i hi
  split at hf <;> try cases hf
  rename_i z hz
  split at hf <;> try cases hf
  rename_i hc
  obtain ⟨v', w', ob', hr, ho, he, hob⟩ := CP (ty := T) ht hc.2.2 hi hz rfl rfl hc.2.1 hc.1 hown hsrc hbytes
  have hv : ∃ a' c', v' = .slice a' (n + m) c' := by
    rcases ho.2 with ⟨h1, h2, _⟩ | ⟨g, cap, _, _, h1, _⟩
    · exact ⟨none, 0, by rw [h1, h2]⟩
    · exact ⟨_, _, h1⟩
  obtain ⟨a', c', rfl⟩ := hv
  refine gD (w' := w') hd (fun ρ ha => ?_) (h a' c' w' ob' ho he hob)
  simp [execOp, resolve, ha s _ hs, ha x _ hx, invoke, builtin, hr]
theorem dB {s x : Operand} {t u e : TypeId} {ats : Array TypeId} {sz bytes n m c : Nat} {a : Option Addr} {vx : Value} {xs news : List Value} {ob : Option Nat} (hd : Nat.blt d N.1 = true) (hs : σ.ev s = some (.slice a n c)) (hx : σ.ev x = some vx) (hats : ats = #[t, u])
    (hf : oU P t u = some (e, sz, bytes)) (hown : OwnS w e sz a n c xs ob) (hsrc : Src P w sz vx m news) (hbytes : (n + m) * bytes ≤ 140737488355328)
    (h : ∀ a' c' w' ob', OwnS w' e sz a' (n + m) c' (xs ++ news) ob' → Evo ob.toList w w' → (ob' = ob ∨ ∃ g, ob' = some g ∧ w.heap.size ≤ g) → WL P N ops R rest ((d, .slice a' (n + m) c') :: σ) w') :
    WL P N ops R (⟨some d, .call ⟨.builtin .append, #[s, x], ats⟩, T, pos, after, none⟩ :: rest) σ w :=
  CH hd hs hx hats hf hown hsrc hbytes fun a' c' w' ob' h1 h2 h3 => h a' c' w' ob' h1 h2 (h3.imp id fun ⟨g, k1, k2, _⟩ => ⟨g, k1, k2⟩)
theorem LD (sz : Nat) : ∀ (vs : List Value) (k : Nat) (pre post : List Value), (∀ v, v ∈ vs → v.cells.size = sz) → pre.length = k * sz → post.length = vs.length * sz →
    Instr.fill (fun i => some (i * sz, sz)) (pre ++ post).toArray ((vs.zipIdx k).map fun p => (p.2, p.1)) = some (pre ++ vs.flatMap (fun v => v.cells.toList)).toArray := by
  intro vs
  induction vs with
  | nil => intro k pre post _ _ hpost; have : post = [] := List.eq_nil_of_length_eq_zero (by simpa using hpost); subst this; simp [Instr.fill]
  | cons v vs ih =>
    intro k pre post hsz hpre hpost
    have hv := hsz v (by simp)
    have hpl : post.length = sz + vs.length * sz := by rw [hpost, List.length_cons, Nat.add_mul]; omega
    have key : ∀ (l : List Value) (j : Nat) (p q : List Value), p.length = k * sz + j → l.length ≤ q.length →
        (l.zipIdx j).foldl (fun (cs : Array Value) x => cs.setIfInBounds (k * sz + x.2) x.1) (p ++ q).toArray = (p ++ l ++ q.drop l.length).toArray := by
      intro l
      induction l with
      | nil => intro j p q _ _; simp
      | cons c l ihl =>
        intro j p q hp hq
        cases q with
        | nil => simp at hq
        | cons q0 q =>
          have := ihl (j + 1) (p ++ [c]) q (by simp [hp]; omega) (by simpa using hq)
          simp only [List.zipIdx_cons, List.foldl_cons, List.setIfInBounds_toArray]
          rw [show (p ++ q0 :: q).set (k * sz + j) c = p ++ [c] ++ q from by rw [← hp]; simp]
          simpa using this
    have hk := key v.cells.toList 0 pre post (by simpa using hpre) (by simp [hv]; omega)
    simp only [List.zipIdx_cons, List.map_cons, Instr.fill]
    rw [if_neg (by simp [hv, hpre, hpl])]
    rw [← Array.foldl_toList, Array.toList_zipIdx, hk]
    have h2 := ih (k + 1) (pre ++ v.cells.toList) (post.drop v.cells.toList.length) (fun u hu => hsz u (List.mem_cons_of_mem _ hu)) (by simp [hpre, hv, Nat.add_mul]) (by simp [hv, hpl])
    rw [h2]
    simp
def iF (P : Program) (t : TypeId) : Option (TypeId × Nat) :=
  match P.underlying t with
  | some (.slice e) => match P.info? e with
    | some i => match i.zero with
      | some z => if z.cells.size = i.size then some (e, i.size) else none
      | none => none
    | none => none
  | _ => none
theorem cK {t e : TypeId} {sz len : Nat} {parts : Array (Nat × Operand)} {vs : List Value} (hd : Nat.blt d N.1 = true) (hf : iF P t = some (e, sz)) (hp : parts.toList.map (fun p => (p.1, σ.ev p.2)) = vs.zipIdx.map (fun q => (q.2, some q.1)))
    (hlen : vs.length = len) (hsz : vs.all (fun v => Nat.beq v.cells.size sz) = true) (hle : Nat.ble (len * sz + len) 16777216 = true)
    (h : ∀ b w', OwnS w' e sz (some ⟨b, 0, none⟩) len len (vs.flatMap fun v => v.cells.toList) (some b) → w.heap.size = b → Evo [] w w' → WL P N ops R rest ((d, .slice (some ⟨b, 0, none⟩) len len) :: σ) w') :
    WL P N ops R (⟨some d, .buildSlice t len parts, T, pos, after, none⟩ :: rest) σ w := by
  simp only [iF] at hf
  split at hf <;> try cases hf
  rename_i e' ht
  split at hf <;> try cases hf
  rename_i i hi
  split at hf <;> try cases hf
  rename_i z hz
  split at hf <;> try cases hf
  rename_i hc
  have hvs : ∀ v, v ∈ vs → v.cells.size = i.size := fun v hv => Nat.eq_of_beq_eq_true (List.all_eq_true.1 hsz v hv)
  have hfl : (vs.flatMap fun v => v.cells.toList).length = len * i.size := by
    rw [← hlen]; clear hp hlen hsz hle h
    induction vs with
    | nil => simp
    | cons v vs ih => simp [ih (fun u hu => hvs u (List.mem_cons_of_mem _ hu)), hvs v (by simp), Nat.add_mul]; omega
  have hle' : len * i.size + len ≤ 16777216 := Nat.le_of_ble_eq_true hle
  refine gD (w' := w.alloc (.cells (vs.flatMap fun v => v.cells.toList).toArray e)) hd (fun ρ ha => ?_) (h w.heap.size _ ⟨hfl, .inr ⟨w.heap.size, len, _, rfl, rfl, heap_alloc_new w _, Nat.le_refl _, ?_, by simp [hfl], ?_⟩⟩ rfl (iH w _))
  · have hparts : (parts.map fun p => (p.1, ρ p.2)).toList = (vs.zipIdx 0).map fun p => (p.2, p.1) := by
      rw [Array.toList_map]
      clear h hlen hsz hvs hfl hle hle'
      revert hp
      generalize parts.toList = l
      generalize vs.zipIdx 0 = q
      intro hp
      induction l generalizing q with
      | nil => cases q with | nil => rfl | cons _ _ => simp at hp
      | cons p l ih =>
        cases q with
        | nil => simp at hp
        | cons x q =>
          simp only [List.map_cons, List.cons.injEq, Prod.mk.injEq] at hp ⊢
          exact ⟨⟨hp.1.1, ha _ _ hp.1.2⟩, ih q hp.2⟩
    have hfill := LD i.size vs 0 [] (List.map (fun j => z.cells[j % z.cells.size]!) (List.range (len * i.size))) hvs (by simp) (by simp [hlen])
    simp only [List.nil_append] at hfill
    have harr : ((Array.range (len * i.size)).map fun j => z.cells[j % z.cells.size]!) = (List.map (fun j => z.cells[j % z.cells.size]!) (List.range (len * i.size))).toArray := by
      apply Array.toList_inj.1; simp
    rw [← harr, ← hparts] at hfill
    simp only [execOp, Instr.buildSlice, run_underlying ht, sizeOf, typeInfo, hi, Sem.run_bind, Sem.run_pure, Result.andThen_ok, run_program, zeroValue]
    rw [Array.toList_map] at hfill
    by_cases h0 : len * i.size = 0
    · have hr0 : Array.range 0 = #[] := rfl
      simp only [h0, hr0, Array.map_empty] at hfill
      simp only [hi, h0, hr0, if_true, Sem.run_bind, Sem.run_pure, Result.andThen_ok, run_program, Array.map_empty, Array.toList_map]
      simp [hfill, newRow]
    · have hzz : (zeroValue e).run P w = .ok z w := by simp [zeroValue, typeInfo, hi, hz]
      simp [hi, hz, h0, newRow, show ¬ (16777216 < len * i.size) by omega, hfill]
  · unfold maxLen; omega
  · rw [← hfl]; exact List.take_length
end
section
variable {P : Program} {N : NN} {R : fJ} {σ : Env} {w : World} {ops : Array Oper} {rest : List Oper} {d : Nat} {op : Op} {T : TypeId} {pos : String} {after : Array Edge}
def QL (P : Program) (N : NN) (ops : Array Oper) (w : World) (R : fJ) (l : List Oper) (σ : Env) : Prop :=
  ∀ a, Fits N σ a → wpQuiet P ops (fun w' => ∃ n, w' = w.drewN n) (fun a' => ∀ w', (∃ n, w' = w.drewN n) → toQ R .normal a' w') l a
theorem vT (w : World) (n : Nat) : Evo [] w (w.drewN n) := ⟨rfl, rfl, rfl, Nat.le_refl _, fun _ _ _ => rfl, Nat.le_add_right _ _⟩
theorem jR {id : Nat} {l : List Oper} (hm : P.follows .mixedOrders = true) (hB : Region.lexB .any l.toArray = true) (h : QL P N l.toArray w R l σ) : CW P N (.region id l.toArray true) R σ w :=
  fun a ha => wp_region_quiet_lit hm hB (h a ha)
theorem jC (h : ∀ w', Evo [] w w' → R .normal N σ w') : QL P N ops w R [] σ := fun _ ha => wpQuiet_nil fun w' ⟨n, hn⟩ => ⟨N, σ, ha, h w' (hn ▸ vT w n)⟩
theorem ql_val {r : Value} (hd : Nat.blt d N.1 = true) (hx : ∀ w', Evo [] w w' → Ex P σ ⟨some d, op, T, pos, after, none⟩ w' r w') (h : QL P N ops w R rest ((d, r) :: σ)) :
    QL P N ops w R (⟨some d, op, T, pos, after, none⟩ :: rest) σ := fun a ha => by
  refine wpQuiet_step fun K hK => ?_
  rw [if_pos (by simp [Region.wanted])]
  refine ⟨r, ?_, hK _ (h _ (ha.put (of_decide_eq_true (by simpa using hd)) r))⟩
  rintro w' ⟨n, rfl⟩
  unfold Oper.quietAt
  rw [hx _ (vT w n) a.eval ha.agrees]
  exact ⟨rfl, rfl⟩
theorem cC {r : Value} (hx : ∀ w', Evo [] w w' → Ex P σ ⟨some d, op, T, pos, after, none⟩ w' r w') (h : QL P N ops w R rest ((d, r) :: σ)) (hd : Nat.blt d N.1 = true := by rfl) : QL P N ops w R (⟨some d, op, T, pos, after, none⟩ :: rest) σ := ql_val hd hx h
theorem ql_go {dst : Option Nat} {j : Nat} {pol : Bool} {oj : Oper} {t : Nat} (hj : ops[j]? = some oj) (ht : oj.dst = some t) (hv : σ.get t = some (.bool pol)) (hN : Nat.blt t N.1 = true)
    (h : QL P N ops w R (⟨dst, op, T, pos, after, none⟩ :: rest) σ) : QL P N ops w R (⟨dst, op, T, pos, after, some (j, pol)⟩ :: rest) σ := fun a ha => by
  have h1 := h a ha
  have hg : Region.wanted (⟨dst, op, T, pos, after, some (j, pol)⟩ : Oper) (yielded ops a.tmps) = true := by
    have hs : t < a.tmps.size := by rw [ha.1]; exact of_decide_eq_true (by simpa using hN)
    have := ha.2.2 t _ hv
    simp only [Array.getD_eq_getD_getElem?, Array.getElem?_eq_getElem hs, Option.getD_some] at this
    simp [Region.wanted, yielded, hj, ht, Array.getElem?_eq_getElem hs, this]
  unfold wpQuiet at h1 ⊢
  rw [if_pos hg]
  rw [if_pos (by simp [Region.wanted])] at h1
  exact h1
theorem qlg {dst : Option Nat} {j : Nat} {pol : Bool} {oj : Oper} {t : Nat} (h : QL P N ops w R (⟨dst, op, T, pos, after, none⟩ :: rest) σ) (hj : ops[j]? = some oj := by rfl) (ht : oj.dst = some t := by rfl) (hv : σ.get t = some (.bool pol) := by rfl) (hN : Nat.blt t N.1 = true := by rfl) : QL P N ops w R (⟨dst, op, T, pos, after, some (j, pol)⟩ :: rest) σ := ql_go hj ht hv hN h
theorem ql_no {j : Nat} {pol b : Bool} {oj : Oper} {t : Nat} (hj : ops[j]? = some oj) (ht : oj.dst = some t) (hv : σ.get t = some (.bool b)) (hb : b = !pol) (hN : Nat.blt t N.1 = true) (hd : Nat.blt d N.1 = true)
    (h : QL P N ops w R rest ((d, undef) :: σ)) : QL P N ops w R (⟨some d, op, T, pos, after, some (j, pol)⟩ :: rest) σ := fun a ha => by
  have hg : Region.wanted (⟨some d, op, T, pos, after, some (j, pol)⟩ : Oper) (yielded ops a.tmps) = false := by
    have hs : t < a.tmps.size := by rw [ha.1]; exact of_decide_eq_true (by simpa using hN)
    have := ha.2.2 t _ hv
    simp only [Array.getD_eq_getD_getElem?, Array.getElem?_eq_getElem hs, Option.getD_some] at this
    subst hb
    cases pol <;> simp [Region.wanted, yielded, hj, ht, Array.getElem?_eq_getElem hs, this]
  unfold wpQuiet
  rw [if_neg (by rw [hg]; simp)]
  exact h _ (ha.put (of_decide_eq_true (by simpa using hd)) _)
theorem qln {j : Nat} {pol b : Bool} {oj : Oper} {t : Nat} (h : QL P N ops w R rest ((d, undef) :: σ)) (hj : ops[j]? = some oj := by rfl) (ht : oj.dst = some t := by rfl) (hv : σ.get t = some (.bool b) := by rfl) (hb : b = !pol := by rfl) (hN : Nat.blt t N.1 = true := by rfl) (hd : Nat.blt d N.1 = true := by rfl) : QL P N ops w R (⟨some d, op, T, pos, after, some (j, pol)⟩ :: rest) σ := ql_no hj ht hv hb hN hd h
theorem Fits.split {t : Nat} {b c : Bool} {a : Act} (hv : σ.get t = some (.bool b)) (he : b = c) (ha : Fits N σ a) : Fits N ((t, .bool c) :: σ) a :=
  ⟨ha.1, ha.2.1, fun u v hu => by
    simp only [Env.get] at hu
    cases hb : Nat.beq t u with
    | true =>
      rw [hb] at hu
      have : t = u := Nat.eq_of_beq_eq_true hb
      subst this
      simp only [cond_true, Option.some.injEq] at hu
      rw [← hu, ha.2.2 t _ hv, he]
    | false => rw [hb] at hu; exact ha.2.2 u v hu⟩
theorem mB {l : List Oper} {t : Nat} {p : Prop} [Decidable p] (hv : σ.get t = some (.bool (decide p))) (ht : p → QL P N ops w R l ((t, .bool true) :: σ)) (hf : ¬ p → QL P N ops w R l ((t, .bool false) :: σ)) : QL P N ops w R l σ := by
  intro a ha
  by_cases h : p
  · exact ht h a (ha.split hv (decide_eq_true h))
  · exact hf h a (ha.split hv (decide_eq_false h))
end
abbrev Rel (α : Type) := List Nat → World → List Value → α → Prop
def Rel.Pers {α : Type} (R : Rel α) : Prop := ∀ X w w' vs d, Evo X w w' → R X w vs d → R X w' vs d
def Rel.Fresh {α : Type} (R : Rel α) : Prop := ∀ X Y w vs d, (∀ y, y ∈ Y → y ∈ X ∨ w.heap.size ≤ y) → R X w vs d → R Y w vs d
def RSl {α : Type} (sz : Nat) (R : Rel α) (X : List Nat) (w : World) (v : Value) (ds : List α) : Prop :=
  ∃ a c, v = .slice a ds.length c ∧ ds.length ≤ c ∧ ∀ k (hk : k < ds.length), ∃ b o vs, a = some ⟨b, o, none⟩ ∧ b ∉ X ∧ vs.length = sz ∧ CellsAt w b (o + k * sz) vs ∧ R X w vs ds[k]
theorem RSl.evo {α : Type} {sz : Nat} {R : Rel α} (hR : R.Pers) {X : List Nat} {w w' : World} {v : Value} {ds : List α} (he : Evo X w w') (h : RSl sz R X w v ds) : RSl sz R X w' v ds := by
  obtain ⟨a, c, hv, hc, h⟩ := h
  refine ⟨a, c, hv, hc, fun k hk => ?_⟩
  obtain ⟨b, o, vs, ha, hb, hl, hcs, hr⟩ := h k hk
  exact ⟨b, o, vs, ha, hb, hl, hcs.evo he hb, hR _ _ _ _ _ he hr⟩
def RInt (k : IntKind) : Rel Int := fun _ _ vs n => vs = [.int k n] ∧ k.min ≤ n ∧ n ≤ k.max
def LZ : Rel Bool := fun _ _ vs b => vs = [.bool b]
def RStr : Rel ByteArray := fun _ _ vs s => vs = [.string s]
def EI {α : Type} (sz : Nat) (R : Rel α) : Rel (List α) := fun X w vs ds => ∃ v, vs = [v] ∧ RSl sz R X w v ds
theorem RStr.pers : RStr.Pers := fun _ _ _ _ _ _ h => h
def Apart (o p : Option Nat) : Prop := ∀ g, o = some g → p = some g → False
def Ge (w : World) (o : Option Nat) : Prop := ∀ g, o = some g → w.heap.size ≤ g
def Lt (w : World) (o : Option Nat) : Prop := ∀ g, o = some g → g < w.heap.size
theorem Apart.symm {o p : Option Nat} (h : Apart o p) : Apart p o := fun g h1 h2 => h g h2 h1
theorem Lt.blk {w : World} {b : Nat} {o : Obj} (h : w.heap[b]? = some o) : Lt w (some b) := fun g hg => by cases hg; exact iJ h
theorem Lt.own {w : World} {e : TypeId} {sz : Nat} {a : Option Addr} {n c : Nat} {xs : List Value} {ob : Option Nat} (h : OwnS w e sz a n c xs ob) : Lt w ob := fun g hg => by subst hg; exact h.lt
theorem Apart.new {w : World} {o : Option Nat} {b : Nat} (h : Lt w o) (hs : w.heap.size = b) : Apart o (some b) := fun g h1 h2 => by have h3 := Option.some.inj h2; have := h g h1; omega
theorem Apart.fresh {w : World} {o p : Option Nat} (h : Lt w o) (hs : Ge w p) : Apart o p := fun g h1 h2 => by have := h g h1; have := hs g h2; omega
theorem Apart.nil (o : Option Nat) : Apart o Option.none := fun _ _ h => by cases h
theorem Apart.app {w : World} {o ob ob' : Option Nat} (h : Apart o ob) (hl : Lt w o) (hob : ob' = ob ∨ ∃ g, ob' = some g ∧ w.heap.size ≤ g) : Apart o ob' := fun g h1 h2 => by
  rcases hob with rfl | ⟨g', rfl, hg⟩
  · exact h g h1 h2
  · cases h2; have := hl g h1; omega
theorem Apart.nmem {b : Nat} {ob : Option Nat} (h : Apart (some b) ob) : b ∉ ob.toList := fun hm => by
  cases ob with
  | none => cases hm
  | some g => exact h g (by simp at hm; rw [hm]) rfl
theorem Apart.nmem1 {b c : Nat} (h : Apart (some b) (some c)) : b ∉ [c] := h.nmem
theorem Apart.own {o ob : Option Nat} (h : Apart o ob) : ∀ g, o = some g → g ∉ ob.toList := fun g hg => by subst hg; exact h.nmem
theorem Apart.own1 {o : Option Nat} {c : Nat} (h : Apart o (some c)) : ∀ g, o = some g → g ∉ [c] := fun g hg => by subst hg; exact h.nmem
theorem Ge.nil (w : World) : Ge w none := fun g h => by cases h
theorem Ge.new {X : List Nat} {a w : World} {b : Nat} (h : Evo X a w) (hs : w.heap.size = b) : Ge a (some b) := fun g hg => by cases hg; have := h.size; omega
theorem Ge.fresh {X : List Nat} {a w : World} {o : Option Nat} (h : Evo X a w) (hs : Ge w o) : Ge a o := fun g hg => by have := h.size; have := hs g hg; omega
theorem Ge.app {X : List Nat} {a w : World} {ob ob' : Option Nat} (h : Ge a ob) (he : Evo X a w) (hob : ob' = ob ∨ ∃ g, ob' = some g ∧ w.heap.size ≤ g) : Ge a ob' := fun g h2 => by
  rcases hob with rfl | ⟨g', rfl, hg⟩
  · exact h g h2
  · cases h2; have := he.size; omega
theorem Ge.mem {X : List Nat} {a : World} {ob : Option Nat} (h : Ge a ob) : ∀ y, y ∈ ob.toList → y ∈ X ∨ a.heap.size ≤ y := fun y hy => by
  cases ob with
  | none => cases hy
  | some g => simp at hy; subst hy; exact .inr (h _ rfl)
theorem Ge.mem1 {X : List Nat} {a : World} {b : Nat} (h : Ge a (some b)) : ∀ y, y ∈ [b] → y ∈ X ∨ a.heap.size ≤ y := h.mem
theorem Src.ofOwn {P : Program} {w : World} {e : TypeId} {sz : Nat} {a : Option Addr} {n c : Nat} {xs : List Value} {ob : Option Nat} (h : OwnS w e sz a n c xs ob) (h1 : AllOne xs) : Src P w sz (.slice a n c) n xs := by
  have h1' := h1.mem
  rcases Nat.eq_zero_or_pos n with h0 | h0
  · subst h0
    have hx : xs = [] := List.eq_nil_of_length_eq_zero (by simpa using h.1)
    subst hx
    refine ⟨fun _ => rfl, fun w2 _ => ?_, by simp, h1'⟩
    cases a with
    | none => rfl
    | some a => simp [Builtin.firstCells, loadCells, loadCellsFrom]
  · obtain ⟨g, _, rfl, hc⟩ := h.cells h0
    exact Src.slice h.1 hc h1'
theorem RSl.one {α : Type} {sz : Nat} {R : Rel α} {X : List Nat} {w : World} {v : Value} {ds : List α} (h : RSl sz R X w v ds) : v.oneCell' = true := by
  obtain ⟨_, _, rfl, _⟩ := h; rfl
theorem RSl.src {α : Type} {P : Program} {sz : Nat} {R : Rel α} {X : List Nat} {w w' : World} {v : Value} {ds : List α} (h : RSl sz R X w v ds) (he : Evo X w w') (h1 : ∀ X w vs d, R X w vs d → ∀ u, u ∈ vs → u.oneCell' = true) :
    ∃ rows : List (List Value), rows.length = ds.length ∧ (∀ k (hk : k < ds.length) (hk' : k < rows.length), rows[k].length = sz ∧ R X w rows[k] ds[k]) ∧ Src P w' sz v ds.length rows.flatten := by
  obtain ⟨a, c, rfl, hc, h⟩ := h
  rcases Nat.eq_zero_or_pos ds.length with h0 | h0
  · refine ⟨[], by simp [h0], fun k hk => by omega, ?_⟩
    refine ⟨fun _ => rfl, fun w2 _ => ?_, by simp [h0], fun u hu => by simp at hu⟩
    rw [h0]
    cases a with
    | none => rfl
    | some a => simp [Builtin.firstCells, loadCells, loadCellsFrom]
  · obtain ⟨b, o, _, ha, hbX, _⟩ := h 0 h0
    subst ha
    have hex : ∀ n, n ≤ ds.length → ∃ rows : List (List Value), rows.length = n ∧ (∀ k (hk : k < ds.length) (hk' : k < rows.length), rows[k].length = sz ∧ CellsAt w b (o + k * sz) rows[k] ∧ R X w rows[k] ds[k]) := by
      intro n
      induction n with
      | zero => exact fun _ => ⟨[], rfl, fun k _ hk' => by simp at hk'⟩
      | succ n ih =>
        intro hn
        obtain ⟨rows, hl, hr⟩ := ih (by omega)
        obtain ⟨b', o', vs, hb, _, hlen, hcs, hR⟩ := h n (by omega)
        cases hb
        refine ⟨rows ++ [vs], by simp [hl], fun k hk hk' => ?_⟩
        by_cases hkn : k < n
        · rw [List.getElem_append_left (by omega)]
          exact hr k hk (by omega)
        · obtain rfl : k = n := by simp [hl] at hk'; omega
          rw [List.getElem_append_right (by omega)]
          simp only [hl, Nat.sub_self, List.getElem_cons_zero]
          exact ⟨hlen, hcs, hR⟩
    obtain ⟨rows, hl, hr⟩ := hex ds.length (Nat.le_refl _)
    refine ⟨rows, hl, fun k hk hk' => ⟨(hr k hk hk').1, (hr k hk hk').2.2⟩, ?_⟩
    have hcells : ∀ (rs : List (List Value)) (k : Nat), (∀ j (hj : j < rs.length), rs[j].length = sz ∧ CellsAt w b (o + (k + j) * sz) rs[j]) → CellsAt w b (o + k * sz) rs.flatten := by
      intro rs
      induction rs with
      | nil => intro k _ j v hv; simp at hv
      | cons r rs ih =>
        intro k hk j v hv
        simp only [List.flatten_cons, List.getElem?_append] at hv
        have h0 := hk 0 (by simp)
        split at hv
        · have := h0.2 j v (by simpa using hv)
          simpa using this
        · have hrs := ih (k + 1) (fun j hj => by have := hk (j + 1) (by simpa using hj); simp only [List.getElem_cons_succ] at this; rw [show k + 1 + j = k + (j + 1) by omega]; exact this) (j - r.length) v hv
          have hrl : r.length = sz := h0.1
          rw [show o + k * sz + j = o + (k + 1) * sz + (j - r.length) by rw [Nat.add_mul]; omega]
          exact hrs
    have hlen : ∀ (rs : List (List Value)), (∀ r, r ∈ rs → r.length = sz) → rs.flatten.length = rs.length * sz := by
      intro rs
      induction rs with
      | nil => intro _; simp
      | cons r rs ih => intro hk; simp [ih (fun r hr => hk r (List.mem_cons_of_mem _ hr)), hk r (by simp), Nat.add_mul]; omega
    have hall : ∀ r, r ∈ rows → r.length = sz ∧ ∀ u, u ∈ r → u.oneCell' = true := fun r hr' => by
      obtain ⟨k, hk, rfl⟩ := List.getElem_of_mem hr'
      have := hr k (by omega) hk
      exact ⟨this.1, h1 _ _ _ _ this.2.2⟩
    refine Src.slice (by rw [hlen rows (fun r h => (hall r h).1), hl]) (CellsAt.evo (w := w) (X := X) ?_ he hbX) (fun u hu => by obtain ⟨r, hr', hu'⟩ := List.mem_flatten.1 hu; exact (hall r hr').2 u hu')
    have := hcells rows 0 (fun j hj => ⟨(hr j (by omega) hj).1, by simpa using (hr j (by omega) hj).2.1⟩)
    simpa using this
theorem RSl.fresh {α : Type} {sz : Nat} {R : Rel α} (hsz : 0 < sz) (hR : R.Fresh) {X Y : List Nat} {w : World} {v : Value} {ds : List α} (hy : ∀ y, y ∈ Y → y ∈ X ∨ w.heap.size ≤ y) (h : RSl sz R X w v ds) : RSl sz R Y w v ds := by
  obtain ⟨a, c, hv, hc, h⟩ := h
  refine ⟨a, c, hv, hc, fun k hk => ?_⟩
  obtain ⟨b, o, vs, ha, hb, hl, hcs, hr⟩ := h k hk
  refine ⟨b, o, vs, ha, fun hbY => ?_, hl, hcs, hR _ _ _ _ _ hy hr⟩
  rcases hy b hbY with h1 | h1
  · exact hb h1
  · cases vs with
    | nil => simp at hl; omega
    | cons v0 vs =>
      have := World.block_lt_of_cell? w _ (hcs 0 v0 (by simp))
      simp only at this
      omega
def RowsOk {α : Type} (sz : Nat) (R : Rel α) (X : List Nat) (w : World) (rows : List (List Value)) (ds : List α) : Prop :=
  rows.length = ds.length ∧ ∀ k (h : k < ds.length) (h' : k < rows.length), rows[k].length = sz ∧ R X w rows[k] ds[k]
theorem RowsOk.flen {α : Type} {sz : Nat} {R : Rel α} {X : List Nat} {w : World} {rows : List (List Value)} {ds : List α} (h : RowsOk sz R X w rows ds) : ∀ r, r ∈ rows → r.length = sz := fun r hr => by
  obtain ⟨k, hk, rfl⟩ := List.getElem_of_mem hr
  exact (h.2 k (by rw [← h.1]; exact hk) hk).1
theorem qX {sz : Nat} : ∀ {rows : List (List Value)} (_ : ∀ r, r ∈ rows → r.length = sz) {k j : Nat} (hk : k < rows.length) (_ : j < sz), rows.flatten[k * sz + j]? = rows[k][j]? := by
  intro rows
  induction rows with
  | nil => intro _ k j hk; simp at hk
  | cons r rows ih =>
    intro h k j hk hj
    have hr := h r (by simp)
    cases k with
    | zero => simp [List.getElem?_append, hr, hj]
    | succ k =>
      have := ih (fun r hr => h r (List.mem_cons_of_mem _ hr)) (k := k) (j := j) (by simpa using hk) hj
      simp only [List.flatten_cons, List.getElem?_append, hr, List.getElem_cons_succ]
      rw [if_neg (by rw [Nat.add_mul]; omega), show (k + 1) * sz + j - sz = k * sz + j by rw [Nat.add_mul]; omega, this]
theorem qW {sz : Nat} : ∀ {rows : List (List Value)} (_ : ∀ r, r ∈ rows → r.length = sz) {k j : Nat} (hk : k < rows.length) (_ : j < sz) (v : Value), rows.flatten.set (k * sz + j) v = (rows.set k (rows[k].set j v)).flatten := by
  intro rows
  induction rows with
  | nil => intro _ k j hk; simp at hk
  | cons r rows ih =>
    intro h k j hk hj v
    have hr := h r (by simp)
    cases k with
    | zero => simp [List.set_append, hr, hj]
    | succ k =>
      have := ih (fun r hr => h r (List.mem_cons_of_mem _ hr)) (k := k) (j := j) (by simpa using hk) hj v
      simp only [List.flatten_cons, List.set_append, hr, List.getElem_cons_succ, List.set_cons_succ]
      rw [if_neg (by rw [Nat.add_mul]; omega), show (k + 1) * sz + j - sz = k * sz + j by rw [Nat.add_mul]; omega, this]
theorem OwnS.set {w w' : World} {e : TypeId} {sz : Nat} {a : Option Addr} {n c : Nat} {xs : List Value} {g : Nat} {cur : Array Value} {U : TypeId} {i : Nat} {v : Value} (h : OwnS w e sz a n c xs (some g)) (hb : w.heap[g]? = some (.cells cur U (0, 0))) (hb' : w'.heap[g]? = some (.cells (cur.setIfInBounds i v) U (0, 0))) : OwnS w' e sz a n c (xs.set i v) (some g) := by
  refine ⟨by simp [h.1], ?_⟩
  rcases h.2 with ⟨_, _, h2⟩ | ⟨g', cap, cur', hg, hv, hbb, hn, hc, hs, ht⟩
  · cases h2
  · cases hg
    rw [hb] at hbb
    cases hbb
    refine .inr ⟨g, cap, _, rfl, hv, hb', hn, hc, by simp [hs], ?_⟩
    rw [← ht]
    simp [List.take_set]
theorem OwnS.set' {w w' : World} {e : TypeId} {sz : Nat} {a : Option Addr} {n c : Nat} {xs : List Value} {ob : Option Nat} {g : Nat} {cur : Array Value} {U : TypeId} {i : Nat} {v : Value} (h : OwnS w e sz a n c xs ob) (hg : ob = some g) (hb : w.heap[g]? = some (.cells cur U (0, 0))) (hb' : w'.heap[g]? = some (.cells (cur.setIfInBounds i v) U (0, 0))) : OwnS w' e sz a n c (xs.set i v) ob := by
  subst hg; exact h.set hb hb'
theorem tA {w w' : World} {ob : Option Nat} {g : Nat} (hg : ob = some g) (h : Evo [g] w w') : Evo ob.toList w w' := by subst hg; exact h
theorem OwnS.inb {w : World} {e : TypeId} {sz : Nat} {a : Option Addr} {n c k j o : Nat} {xs : List Value} {ob : Option Nat} {cur : Array Value} (h : OwnS w e sz a n c xs ob) (hs : cur.size = c * sz) (hk : k < n) (hj : j < sz) (ho : o = k * sz + j) : o < cur.size := by
  have h1 := h.le
  have h2 : (k + 1) * sz ≤ c * sz := Nat.mul_le_mul_right _ (by omega)
  rw [hs, ho]
  rw [Nat.add_mul] at h2
  omega
theorem RSl.ofOwn {α : Type} {sz : Nat} {R : Rel α} {X : List Nat} {w : World} {e : TypeId} {a : Option Addr} {n c : Nat} {rows : List (List Value)} {ds : List α} {ob : Option Nat} (h : OwnS w e sz a n c rows.flatten ob) (hr : RowsOk sz R X w rows ds) (hn : ds.length = n) (hx : ∀ g, ob = some g → g ∉ X) :
    RSl sz R X w (.slice a n c) ds := by
  subst hn
  refine ⟨a, c, rfl, h.le, fun k hk => ?_⟩
  obtain ⟨g, hg, ha, hcs⟩ := h.cells (by omega)
  have hk' : k < rows.length := by rw [hr.1]; exact hk
  obtain ⟨h1, h2⟩ := hr.2 k hk hk'
  refine ⟨g, 0, rows[k], ha, hx g hg, h1, fun j v hv => ?_, h2⟩
  have hj : j < sz := by rw [← h1]; exact (List.getElem?_eq_some_iff.1 hv).1
  have := hcs (k * sz + j) v (by rw [qX hr.flen hk' hj]; exact hv)
  rw [show 0 + k * sz + j = 0 + (k * sz + j) by omega]
  exact this
theorem RSl.rows {α : Type} {P : Program} {sz : Nat} {R : Rel α} {X : List Nat} {w w' : World} {v : Value} {ds : List α} (h : RSl sz R X w v ds) (he : Evo X w w') (h1 : ∀ X w vs d, R X w vs d → ∀ u, u ∈ vs → u.oneCell' = true) :
    ∃ rows : List (List Value), RowsOk sz R X w rows ds ∧ Src P w' sz v ds.length rows.flatten := by
  obtain ⟨rows, hl, hr, hs⟩ := h.src (P := P) he h1
  exact ⟨rows, ⟨hl, fun k hk hk' => hr k hk hk'⟩, hs⟩
section
variable {P : Program} {N : NN} {R : fJ} {σ : Env} {w : World} {ops : Array Oper} {rest : List Oper} {dst : Option Nat} {d : Nat} {op : Op} {T : TypeId} {pos : String} {after : Array Edge} {g : Option (Nat × Bool)}
theorem fK {x i : Operand} {t : TypeId} {k : IntKind} {z : Int} {n sz b o len c : Nat} (hx : σ.ev x = some (.slice (some ⟨b, o, none⟩) len c)) (hi : σ.ev i = some (.int k z)) (hz : z = n) (he : jE P t = some sz) (hlt : n < len) :
    Ex P σ ⟨dst, .indexAddr t x i, T, pos, after, g⟩ w (.pointer (some ⟨b, o + n * sz, none⟩)) w := cS hx (by rw [hi, hz]) he hlt
theorem sK {t : TypeId} (a b : Bool) (w : World) (ht : P.underlying t = some .bool) : (Op.equal t (.bool a) (.bool b)).run P w = .ok (a == b) w := run_equalIn_bool w 9999 t a b ht
theorem FQ {x y : Operand} {t t' : TypeId} {a b : Bool} (hx : σ.ev x = some (.bool a)) (hy : σ.ev y = some (.bool b)) (ht : P.underlying t = some .bool) : Ex P σ ⟨dst, .binOp .neq t x y t', T, pos, after, g⟩ w (.bool (!(a == b))) w := fun ρ h => by
  have := sK (P := P) a b w ht
  simp [execOp, h x _ hx, h y _ hy, eqGuard, Go.binOp, this]
theorem lE {j : Nat} {pol : Bool} {oj : Oper} {t : Nat} {a : Act} (hj : ops[j]? = some oj) (ht : oj.dst = some t) (hv : σ.get t = some undef) (ha : Fits N σ a) (hN : Nat.blt t N.1 = true) :
    Region.wanted (⟨dst, op, T, pos, after, some (j, pol)⟩ : Oper) (yielded ops a.tmps) = false := by
  have hs : t < a.tmps.size := by rw [ha.1]; exact of_decide_eq_true (by simpa using hN)
  have := ha.2.2 t _ hv
  simp only [Array.getD_eq_getD_getElem?, Array.getElem?_eq_getElem hs, Option.getD_some] at this
  simp [Region.wanted, yielded, hj, ht, Array.getElem?_eq_getElem hs, this, undef]
theorem wl_nou {j : Nat} {pol : Bool} {oj : Oper} {t : Nat} (hj : ops[j]? = some oj) (ht : oj.dst = some t) (hv : σ.get t = some undef) (hN : Nat.blt t N.1 = true) (hd : Nat.blt d N.1 = true)
    (h : WL P N ops R rest ((d, undef) :: σ) w) : WL P N ops R (⟨some d, op, T, pos, after, some (j, pol)⟩ :: rest) σ w := fun a ha => by
  unfold wpList
  rw [if_neg (by rw [lE hj ht hv ha hN]; simp)]
  exact h _ (ha.put (of_decide_eq_true (by simpa using hd)) _)
theorem eW {j : Nat} {pol : Bool} {oj : Oper} {t : Nat} (hj : ops[j]? = some oj) (ht : oj.dst = some t) (hv : σ.get t = some undef) (hN : Nat.blt t N.1 = true) (hd : Nat.blt d N.1 = true)
    (h : QL P N ops w R rest ((d, undef) :: σ)) : QL P N ops w R (⟨some d, op, T, pos, after, some (j, pol)⟩ :: rest) σ := fun a ha => by
  unfold wpQuiet
  rw [if_neg (by rw [lE hj ht hv ha hN]; simp)]
  exact h _ (ha.put (of_decide_eq_true (by simpa using hd)) _)
end
section
variable {P : Program} {σ : Env} {w : World} {dst : Option Nat} {T : TypeId} {pos : String} {after : Array Edge} {g : Option (Nat × Bool)}
theorem toList_inj {a b : ByteArray} (h : a.toList = b.toList) : a = b := by
  rw [ByteArray.toList_eq, ByteArray.toList_eq] at h
  obtain ⟨⟨x⟩⟩ := a
  obtain ⟨⟨y⟩⟩ := b
  simp at h
  subst h
  rfl
theorem nB (a b : ByteArray) : (a.toList == b.toList) = decide (a = b) := by
  by_cases h : a = b
  · subst h; simp
  · rw [decide_eq_false h]
    exact beq_eq_false_iff_ne.2 (fun h2 => h (toList_inj h2))
theorem nW {x y : Operand} {t t' : TypeId} {a b : ByteArray} (hx : σ.ev x = some (.string a)) (hy : σ.ev y = some (.string b)) : Ex P σ ⟨dst, .binOp .eql t x y t', T, pos, after, g⟩ w (.bool (decide (a = b))) w := fun ρ h => by
  simp [execOp, h x _ hx, h y _ hy, eqGuard, Go.binOp, Op.stringOp, nB]
theorem iP {x y : Operand} {t t' : TypeId} {a b : ByteArray} (hx : σ.ev x = some (.string a)) (hy : σ.ev y = some (.string b)) : Ex P σ ⟨dst, .binOp .neq t x y t', T, pos, after, g⟩ w (.bool (decide (¬ a = b))) w := fun ρ h => by
  simp [execOp, h x _ hx, h y _ hy, eqGuard, Go.binOp, Op.stringOp, nB]
end
def qV (md : Region.Mode) (ops : Array Oper) (j : Nat) : Bool :=
  (List.range ops.size).all fun k => k == j || match ops[j]? with
    | some oj => oj.after.any fun e => Region.binds md e && e.on == k
    | none => false
def EJ (P : Program) (md : Region.Mode) (ops : Array Oper) (Q : Exit → Act → World → Prop) (S : World → Prop) : Nat → Array Bool → Act → World → Prop
  | 0, listed, a, w => Region.ready md ops listed = [] ∧ Q .normal a w
  | fuel + 1, listed, a, w => (Region.ready md ops listed = [] → Q .normal a w) ∧
    ∀ i ∈ Region.ready md ops listed, wpOp P ops Q i (fun a' w' => (S w' ∨ qV md ops i = true) ∧ EJ P md ops Q S fuel (listed.setIfInBounds i true) a' w') a w
section
variable {P : Program} {ops : Array Oper} {Q : Exit → Act → World → Prop} {md : Region.Mode} {S : World → Prop}
theorem BM : ∀ (fuel : Nat) (listed : Array Bool) (a : Act) (w : World), EJ P md ops Q S fuel listed a w → wpAny P md ops Q fuel listed a w
  | 0, _, _, _, h => h
  | fuel + 1, _, _, _, h => ⟨h.1, fun i hi => wpOp_mono (fun a' w' h' => BM fuel _ a' w' h'.2) (h.2 i hi)⟩
theorem lM {i : Nat} {oi : Oper} {v : Value} (hi : ops[i]? = some oi) (hsel : ∀ (j : Nat) (o : Oper) cs b, ops[j]? = some o → o.op ≠ .select cs b)
    (hQ : ∀ c a w, Q (.panic c) (a.put oi.dst v) w → Q (.panic c) a w) :
    ∀ (fuel : Nat) (listed : Array Bool) (a : Act) (w : World),
      (∀ j oj, ops[j]? = some oj → j ≠ i → listed.getD j true = false → (∀ e ∈ oj.after, Region.binds md e = true → e.on ≠ i) → oi.apart ops oj = true) →
      i ∈ Region.ready md ops listed → YieldsIf P ops S oi v a → S w →
      EJ P md ops Q S fuel (listed.setIfInBounds i true) (a.put oi.dst v) w → EJ P md ops Q S (fuel + 1) listed a w := by
  intro fuel
  induction fuel with
  | zero =>
    intro listed a w _ hr hy hS H
    refine ⟨fun h => (by rw [h] at hr; cases hr), fun j hj => ?_⟩
    by_cases hji : j = i
    · subst hji; exact hy.wpOp hi hS ⟨.inl hS, H⟩
    · have := ready_mono hj hji
      rw [H.1] at this
      cases this
  | succ fuel ih =>
    intro listed a w hfree hr hy hS H
    refine ⟨fun h => (by rw [h] at hr; cases hr), fun j hj => ?_⟩
    by_cases hji : j = i
    · subst hji; exact hy.wpOp hi hS ⟨.inl hS, H⟩
    · have h1 := H.2 j (ready_mono hj hji)
      obtain ⟨hjun, oj, hoj, hall⟩ := mem_ready.1 hj
      have hnot : ∀ e ∈ oj.after, Region.binds md e = true → e.on ≠ i := fun e he hb heq => by
        have h1 := hall e he hb
        have h0 := (mem_ready.1 hr).1
        rw [heq] at h1
        rcases Nat.lt_or_ge i listed.size with h' | h'
        · simp [h'] at h0 h1; rw [h0] at h1; cases h1
        · simp [Array.getElem?_eq_none h'] at h1
      have hlast : qV md ops j ≠ true := fun hl => by
        have hlt : i < ops.size := (Array.getElem?_eq_some_iff.1 hi).1
        have h2 := List.all_eq_true.1 hl i (List.mem_range.2 hlt)
        rw [hoj] at h2
        simp only [Bool.or_eq_true, beq_iff_eq] at h2
        rcases h2 with h2 | h2
        · exact hji h2.symm
        · obtain ⟨e, he, hb⟩ := Array.any_eq_true'.1 h2
          simp only [Bool.and_eq_true, beq_iff_eq] at hb
          exact hnot e he hb.1 hb.2
      have h2 := wpOp_putIf hoj (hfree j oj hoj hji hjun hnot) (fun cs b => hsel i oi cs b hi) (fun cs b => hsel j oj cs b hoj) hQ hy h1
      have hfree' : ∀ k ok, ops[k]? = some ok → k ≠ i → (listed.setIfInBounds j true).getD k true = false →
          (∀ e ∈ ok.after, Region.binds md e = true → e.on ≠ i) → oi.apart ops ok = true := fun k ok hk hki hun hno => by
        refine hfree k ok hk hki ?_ hno
        by_cases hjk : j = k
        · subst hjk; exact hjun
        · rw [getD_set_ne true hjk] at hun; exact hun
      refine wpOp_mono (fun a' w' h3 => ?_) h2
      have hS' : S w' := h3.2.1.resolve_right hlast
      refine ⟨.inl hS', ih (listed.setIfInBounds j true) a' w' hfree' (ready_mono hr (Ne.symm hji)) h3.1 hS' ?_⟩
      rw [Array.setIfInBounds_comm _ _ hji]
      exact h3.2.2
end
def agn (R : fJ) : fJ
  | .panic c, N, _, w => R (.panic c) N [] w
  | .normal, N, σ, w => R .normal N σ w
  | .exit i, N, σ, w => R (.exit i) N σ w
  | .goto l, N, σ, w => R (.goto l) N σ w
  | .ret, N, σ, w => R .ret N σ w
  | .outgrown, N, σ, w => R .outgrown N σ w
theorem HZ {N : NN} {σ : Env} {a : Act} (h : Fits N σ a) : Fits N [] a := ⟨h.1, h.2.1, fun t v h => by cases h⟩
theorem toQ_agn {R : fJ} : ∀ e a w, toQ (agn R) e a w → toQ R e a w := fun e a w h => by
  cases e with
  | panic c => obtain ⟨N, σ, hf, h⟩ := h; exact ⟨N, [], HZ hf, h⟩
  | normal => exact h
  | exit i => exact h
  | goto l => exact h
  | ret => exact h
  | outgrown => exact h
def AE (P : Program) (N : NN) (ops : Array Oper) (R : fJ) (S : World → Prop) (fuel : Nat) (listed : Array Bool) (σ : Env) (w : World) : Prop :=
  ∀ a, Fits N σ a → EJ P .any ops (toQ (agn R)) S fuel listed a w
def AStep (P : Program) (N : NN) (ops : Array Oper) (R : fJ) (S : World → Prop) (fuel : Nat) (listed : Array Bool) (σ : Env) (w : World) (i : Nat) : Prop :=
  ∀ a, Fits N σ a → wpOp P ops (toQ (agn R)) i (fun a' w' => (S w' ∨ qV .any ops i = true) ∧ EJ P .any ops (toQ (agn R)) S fuel (listed.setIfInBounds i true) a' w') a w
def AAll (p : Nat → Prop) : List Nat → Prop
  | [] => True
  | i :: r => p i ∧ AAll p r
section
variable {P : Program} {N : NN} {R : fJ} {σ : Env} {w : World} {ops : Array Oper} {S : World → Prop} {fuel : Nat} {listed : Array Bool} {d : Nat} {op : Op} {T : TypeId} {pos : String} {after : Array Edge}
theorem eG {id : Nat} {l : List Oper} (S : World → World → Prop) (hm : P.follows .mixedOrders = true)
    (h : ∀ w1, Evo [] w w1 → AE P N l.toArray R (S w1) l.toArray.size (Array.replicate l.toArray.size false) σ w1) : CW P N (.region id l.toArray true) R σ w :=
  fun a ha => wp_mono (wp_region_any hm (BM _ _ _ _ (h _ (LG w) a ha))) toQ_agn
theorem rO {R : fJ} {dst : Option Nat} {v : Value} : ∀ c a w, toQ (agn R) (.panic c) (a.put dst v) w → toQ (agn R) (.panic c) a w := by
  rintro c a w ⟨N, σ, hf, h⟩
  refine ⟨N, [], ⟨?_, ?_, fun t v h => by cases h⟩, h⟩
  · rw [← hf.1]; cases dst <;> simp [Act.put]
  · rw [← hf.2.1]; cases dst <;> rfl
theorem ae_take (i : Nat) {r : Value} (hi : ops[i]? = some ⟨some d, op, T, pos, after, none⟩) (hs : Region.noSelect ops = true) (hf : Region.free .any ops listed i = true) (hr : (Region.ready .any ops listed).contains i = true)
    (hd : Nat.blt d N.1 = true) (hx : ∀ w', S w' → Ex P σ ⟨some d, op, T, pos, after, none⟩ w' r w') (hS : S w) (h : AE P N ops R S fuel (listed.setIfInBounds i true) ((d, r) :: σ) w) : AE P N ops R S (fuel + 1) listed σ w := fun a ha =>
  lM hi (Region.noSelect_spec hs) (fun c a w => rO c a w) fuel listed a w (Region.free_spec hi hf) (by simpa using hr)
    (.inl ⟨by simp [Region.wanted], fun w' hw' => hx w' hw' a.eval ha.agrees⟩) hS (h _ (ha.put (of_decide_eq_true (by simpa using hd)) r))
theorem aet (i : Nat) {r : Value} (hi : ops[i]? = some ⟨some d, op, T, pos, after, none⟩) (hx : ∀ w', S w' → Ex P σ ⟨some d, op, T, pos, after, none⟩ w' r w') (hS : S w) (h : AE P N ops R S fuel (listed.setIfInBounds i true) ((d, r) :: σ) w) (hs : Region.noSelect ops = true := by kernel_rfl) (hf : Region.free .any ops listed i = true := by kernel_rfl) (hr : (Region.ready .any ops listed).contains i = true := by kernel_rfl) (hd : Nat.blt d N.1 = true := by rfl) : AE P N ops R S (fuel + 1) listed σ w := ae_take i hi hs hf hr hd hx hS h
theorem bH (i : Nat) {j : Nat} {pol : Bool} {oj : Oper} {t : Nat} {r : Value} (hj : ops[j]? = some oj) (ht : oj.dst = some t) (hv : σ.get t = some (.bool pol)) (hN : Nat.blt t N.1 = true)
    (hi : ops[i]? = some ⟨some d, op, T, pos, after, some (j, pol)⟩) (hs : Region.noSelect ops = true) (hf : Region.free .any ops listed i = true) (hr : (Region.ready .any ops listed).contains i = true)
    (hd : Nat.blt d N.1 = true) (hx : ∀ w', S w' → Ex P σ ⟨some d, op, T, pos, after, some (j, pol)⟩ w' r w') (hS : S w) (h : AE P N ops R S fuel (listed.setIfInBounds i true) ((d, r) :: σ) w) : AE P N ops R S (fuel + 1) listed σ w := fun a ha => by
  have hg : Region.wanted (⟨some d, op, T, pos, after, some (j, pol)⟩ : Oper) (yielded ops a.tmps) = true := by
    have hs : t < a.tmps.size := by rw [ha.1]; exact of_decide_eq_true (by simpa using hN)
    have := ha.2.2 t _ hv
    simp only [Array.getD_eq_getD_getElem?, Array.getElem?_eq_getElem hs, Option.getD_some] at this
    simp [Region.wanted, yielded, hj, ht, Array.getElem?_eq_getElem hs, this]
  exact lM hi (Region.noSelect_spec hs) (fun c a w => rO c a w) fuel listed a w (Region.free_spec hi hf) (by simpa using hr)
    (.inl ⟨hg, fun w' hw' => hx w' hw' a.eval ha.agrees⟩) hS (h _ (ha.put (of_decide_eq_true (by simpa using hd)) r))
theorem LY (i : Nat) {j : Nat} {pol b : Bool} {oj : Oper} {t : Nat} (hj : ops[j]? = some oj) (ht : oj.dst = some t) (hv : σ.get t = some (.bool b)) (hb : b = !pol) (hN : Nat.blt t N.1 = true)
    (hi : ops[i]? = some ⟨some d, op, T, pos, after, some (j, pol)⟩) (hs : Region.noSelect ops = true) (hf : Region.free .any ops listed i = true) (hr : (Region.ready .any ops listed).contains i = true)
    (hd : Nat.blt d N.1 = true) (hS : S w) (h : AE P N ops R S fuel (listed.setIfInBounds i true) ((d, undef) :: σ) w) : AE P N ops R S (fuel + 1) listed σ w := fun a ha => by
  have hg : Region.wanted (⟨some d, op, T, pos, after, some (j, pol)⟩ : Oper) (yielded ops a.tmps) = false := by
    have hs : t < a.tmps.size := by rw [ha.1]; exact of_decide_eq_true (by simpa using hN)
    have := ha.2.2 t _ hv
    simp only [Array.getD_eq_getD_getElem?, Array.getElem?_eq_getElem hs, Option.getD_some] at this
    subst hb
    cases pol <;> simp [Region.wanted, yielded, hj, ht, Array.getElem?_eq_getElem hs, this]
  exact lM hi (Region.noSelect_spec hs) (fun c a w => rO c a w) fuel listed a w (Region.free_spec hi hf) (by simpa using hr)
    (.inr ⟨hg, rfl⟩) hS (h _ (ha.put (of_decide_eq_true (by simpa using hd)) _))
theorem dF (i : Nat) {j : Nat} {pol b : Bool} {oj : Oper} {t : Nat} (hi : ops[i]? = some ⟨some d, op, T, pos, after, some (j, pol)⟩) (hS : S w) (h : AE P N ops R S fuel (listed.setIfInBounds i true) ((d, undef) :: σ) w) (hj : ops[j]? = some oj := by rfl) (ht : oj.dst = some t := by rfl) (hv : σ.get t = some (.bool b) := by rfl) (hb : b = !pol := by rfl) (hN : Nat.blt t N.1 = true := by rfl) (hs : Region.noSelect ops = true := by kernel_rfl) (hf : Region.free .any ops listed i = true := by kernel_rfl) (hr : (Region.ready .any ops listed).contains i = true := by kernel_rfl) (hd : Nat.blt d N.1 = true := by rfl) : AE P N ops R S (fuel + 1) listed σ w := LY i hj ht hv hb hN hi hs hf hr hd hS h
theorem bO (i : Nat) {j : Nat} {pol : Bool} {oj : Oper} {t : Nat} (hj : ops[j]? = some oj) (ht : oj.dst = some t) (hv : σ.get t = some undef) (hN : Nat.blt t N.1 = true)
    (hi : ops[i]? = some ⟨some d, op, T, pos, after, some (j, pol)⟩) (hs : Region.noSelect ops = true) (hf : Region.free .any ops listed i = true) (hr : (Region.ready .any ops listed).contains i = true)
    (hd : Nat.blt d N.1 = true) (hS : S w) (h : AE P N ops R S fuel (listed.setIfInBounds i true) ((d, undef) :: σ) w) : AE P N ops R S (fuel + 1) listed σ w := fun a ha =>
  lM hi (Region.noSelect_spec hs) (fun c a w => rO c a w) fuel listed a w (Region.free_spec hi hf) (by simpa using hr)
    (.inr ⟨lE hj ht hv ha hN, rfl⟩) hS (h _ (ha.put (of_decide_eq_true (by simpa using hd)) _))
theorem aN (rs : List Nat) (hr : Region.ready .any ops listed = rs) (hne : rs.isEmpty = false) (h : AAll (AStep P N ops R S fuel listed σ w) rs) : AE P N ops R S (fuel + 1) listed σ w := fun a ha => by
  refine ⟨fun h0 => ?_, ?_⟩
  · rw [hr] at h0; subst h0; cases hne
  · rw [hr]
    clear hr hne
    induction rs with
    | nil => intro i hi; cases hi
    | cons j rs ih =>
      intro i hi
      rcases List.mem_cons.1 hi with rfl | hi
      · exact h.1 a ha
      · exact ih h.2 i hi
theorem aO {i : Nat} {o : Oper} (hi : ops[i]? = some o) (h : WL P N ops (kU (fun N' σ' w' => N' = N ∧ (S w' ∨ qV .any ops i = true) ∧ AE P N ops R S fuel (listed.setIfInBounds i true) σ' w') (agn R)) [o] σ w) : AStep P N ops R S fuel listed σ w i := fun a ha => by
  have h1 := h a ha
  unfold wpList at h1
  unfold wpOp
  simp only [hi]
  have conv : ∀ a' w', toQ (kU (fun N' σ' w' => N' = N ∧ (S w' ∨ qV .any ops i = true) ∧ AE P N ops R S fuel (listed.setIfInBounds i true) σ' w') (agn R)) .normal a' w' →
      (S w' ∨ qV .any ops i = true) ∧ EJ P .any ops (toQ (agn R)) S fuel (listed.setIfInBounds i true) a' w' := by
    rintro a' w' ⟨N', σ', hf, rfl, hs, hae⟩
    exact ⟨hs, hae a' hf⟩
  split
  · rename_i hw
    rw [if_pos hw] at h1
    rcases h1 with h1 | ⟨h1, a0, w0, h2⟩
    · refine .inl ?_
      unfold Oper.wp at h1 ⊢
      generalize (execOp a.eval o).run P w = r at *
      cases r with
      | ok n w' =>
        cases n <;> simp only [Oper.upon] at h1 ⊢
        case value u => exact conv _ _ (by simpa [wpList] using h1)
        case skip => exact conv _ _ (by simpa [wpList] using h1)
        case defer d => exact conv _ _ (by simpa [wpList] using h1)
        case enter f args =>
          refine h1.mono fun e w'' he => ?_
          cases e with
          | returned u => exact conv _ _ (by simpa [wpList] using he)
          | panicked c => exact he
          | outgrown => obtain ⟨a0, w0, h2⟩ := he; exact ⟨a0, w0, h2⟩
        case row row args => exact h1.mono fun u w'' he => conv _ _ (by simpa [wpList] using he)
      | halt x w' =>
        cases x <;> simp only [Oper.upon] at h1 ⊢
        case panic u => exact h1
    · exact .inr ⟨h1, a0, w0, h2⟩
  · rename_i hw
    rw [if_neg hw] at h1
    exact conv _ _ (by simpa [wpList] using h1)
theorem iZ {t : Nat} {p : Prop} [Decidable p] (hv : σ.get t = some (.bool (decide p))) (ht : p → AE P N ops R S fuel listed ((t, .bool true) :: σ) w) (hf : ¬ p → AE P N ops R S fuel listed ((t, .bool false) :: σ) w) : AE P N ops R S fuel listed σ w := by
  intro a ha
  by_cases h : p
  · exact ht h a (ha.split hv (decide_eq_true h))
  · exact hf h a (ha.split hv (decide_eq_false h))
theorem vZ {t : Nat} {b : Bool} (hv : σ.get t = some (.bool b)) (ht : b = true → AE P N ops R S fuel listed ((t, .bool true) :: σ) w) (hf : b = false → AE P N ops R S fuel listed ((t, .bool false) :: σ) w) : AE P N ops R S fuel listed σ w := by
  intro a ha
  cases b with
  | true => exact ht rfl a (ha.split hv rfl)
  | false => exact hf rfl a (ha.split hv rfl)
theorem aJ {i : Nat} {w : World} (hS : S w ∨ qV .any ops i = true) (h : AE P N ops R S fuel (listed.setIfInBounds i true) σ w) :
    kU (fun N' σ' w' => N' = N ∧ (S w' ∨ qV .any ops i = true) ∧ AE P N ops R S fuel (listed.setIfInBounds i true) σ' w') R .normal N σ w := ⟨rfl, hS, h⟩
theorem bN (hr : Region.ready .any ops listed = []) (h : R .normal N σ w) : AE P N ops R S fuel listed σ w := fun a ha => by
  cases fuel with
  | zero => exact ⟨hr, N, σ, ha, h⟩
  | succ n => exact ⟨fun _ => ⟨N, σ, ha, h⟩, by rw [hr]; intro i hi; cases hi⟩
theorem eY {c : Code} {α : Type} (M : α → Env) (C : Env) (Φ : α → World → Prop) (_hC : Sub C σ) (h1 : CW P N c (kU (fun N' σ' w' => N' = N ∧ ∃ x, Sub (M x) σ' ∧ Sub C σ' ∧ Φ x w') R) σ w) (h2 : ∀ x w', Φ x w' → R .normal N (M x ++ C) w') : CW P N c R σ w := fun a ha => by
  refine wp_mono (h1 a ha) ?_
  intro e a' w' hq
  cases e with
  | normal => obtain ⟨N', σ', hf, rfl, x, hM, hC, hΦ⟩ := hq; exact ⟨N', M x ++ C, Fits.app hM hC hf hf, h2 x w' hΦ⟩
  | exit i => exact hq
  | goto l => exact hq
  | ret => exact hq
  | panic c => exact hq
  | outgrown => exact hq
structure Build (P : Program) (t : TypeId) (places : Array (Nat × Nat)) (zero : Array Value) : Prop where
  ex : ∃ fs z, P.underlying t = some (.struct fs) ∧ (P.info? t).bind (·.zero) = some z ∧ z.cells = zero ∧ ∀ w, (fs.mapM (fun (f : Field) => do pure (f.offset, ← sizeOf f.type)) : Sem (Array (Nat × Nat))).run P w = .ok places w
def HM : List (Nat × Nat) → Nat → Option (Nat × Nat)
  | [], _ => none
  | a :: _, 0 => some a
  | _ :: l, n + 1 => HM l n
theorem FE : ∀ (l : List (Nat × Nat)) (n : Nat), HM l n = l[n]?
  | [], _ => by simp [HM]
  | _ :: _, 0 => by simp [HM]
  | _ :: l, n + 1 => by simp [HM, FE l n]
def lW : List Value → Nat → List Value → List Value
  | l, _, [] => l
  | l, o, v :: r => lW (l.set o v) (o + 1) r
def AT (places : List (Nat × Nat)) : List Value → List (Nat × Value) → Option (List Value)
  | cells, [] => some cells
  | cells, (i, v) :: rest =>
    match HM places i with
    | none => none
    | some (off, size) => cond (Nat.beq v.cells.toList.length size) (cond (Nat.ble (off + size) cells.length) (AT places (lW cells off v.cells.toList) rest) none) none
theorem qP (off : Nat) : ∀ (r l : List Value) (j : Nat), (r.zipIdx j).foldl (fun (cs : Array Value) x => cs.setIfInBounds (off + x.2) x.1) l.toArray = (lW l (off + j) r).toArray
  | [], _, _ => by simp [lW]
  | v :: r, l, j => by
    have := qP off r (l.set (off + j) v) (j + 1)
    simp only [List.zipIdx_cons, List.foldl_cons, List.setIfInBounds_toArray, lW]
    rw [this, Nat.add_assoc]
theorem AS {places : Array (Nat × Nat)} : ∀ (vs : List (Nat × Value)) (cells r : List Value), AT places.toList cells vs = some r → Instr.fill (fun i => places[i]?) cells.toArray vs = some r.toArray
  | [], cells, r, h => by simp only [AT, Option.some.injEq] at h; subst h; simp [Instr.fill]
  | (i, v) :: vs, cells, r, h => by
    simp only [AT, FE, Array.getElem?_toList] at h
    simp only [Instr.fill]
    cases hp : places[i]? with
    | none => rw [hp] at h; cases h
    | some os =>
      obtain ⟨off, size⟩ := os
      rw [hp] at h
      simp only at h
      cases hb : Nat.beq v.cells.toList.length size with
      | false => rw [hb] at h; cases h
      | true =>
        rw [hb] at h
        cases hl : Nat.ble (off + size) cells.length with
        | false => rw [hl] at h; cases h
        | true =>
          rw [hl] at h
          have h1 : v.cells.size = size := by simpa using Nat.eq_of_beq_eq_true hb
          have h2 : off + size ≤ cells.length := Nat.le_of_ble_eq_true hl
          simp only [cond_true] at h
          have := qP off v.cells.toList cells 0
          simp only
          rw [if_neg (by simp [h1, h2]), ← Array.foldl_toList, Array.toList_zipIdx, this]
          exact AS vs _ r h
theorem dR {t : TypeId} {parts : Array (Nat × Operand)} {vs : List (Nat × Value)} {places : Array (Nat × Nat)} {zero cells : List Value} {dst : Option Nat} {g : Option (Nat × Bool)} (hB : Build P t places zero.toArray)
    (hp : parts.toList.map (fun p => (p.1, σ.ev p.2)) = vs.map (fun q => (q.1, some q.2))) (hf' : AT places.toList zero vs = some cells) : Ex P σ ⟨dst, .build t parts, T, pos, after, g⟩ w (.agg cells.toArray) w := fun ρ ha => by
  have hf := AS vs zero cells hf'
  obtain ⟨fs, z, hu, hz, hzc, hr⟩ := hB.ex
  obtain ⟨i, hi, hz'⟩ := Option.bind_eq_some_iff.1 hz
  have hparts : (parts.map fun p => (p.1, ρ p.2)).toList = vs := by
    rw [Array.toList_map]
    clear hf hf'
    revert hp
    generalize parts.toList = l
    intro hp
    induction l generalizing vs with
    | nil => cases vs with | nil => rfl | cons _ _ => simp at hp
    | cons p l ih =>
      cases vs with
      | nil => simp at hp
      | cons x q =>
        simp only [List.map_cons, List.cons.injEq, Prod.mk.injEq] at hp ⊢
        exact ⟨Prod.ext hp.1.1 (ha _ _ hp.1.2), ih hp.2⟩
  rw [Array.toList_map] at hparts
  have hr' := hr w
  simp only [execOp, Instr.build, zeroValue, typeInfo, Sem.run_bind, run_program, Result.andThen_ok, hi, hz', Sem.run_pure, run_underlying hu, hr', hzc, Array.toList_map, hparts, hf]
theorem lD {rest : List Oper} {t U : TypeId} {x y : Operand} {v : Value} {b o : Nat} {cs : Array Value} (hx : σ.ev x = some (.pointer (some ⟨b, o, none⟩))) (hy : σ.ev y = some v) (h1 : v.oneCell' = true) (hs : eS P t = some 1)
    (hb : w.heap[b]? = some (.cells cs U (0, 0))) (hle : o < cs.size)
    (h : ∀ w', w'.heap[b]? = some (.cells (cs.setIfInBounds o v) U (0, 0)) → Evo [b] w w' → WL P N ops R rest σ w') :
    WL P N ops R (⟨none, .store t x y, T, pos, after, none⟩ :: rest) σ w := bE hx hy h1 hs hb (by simpa using hle) h
theorem cB {x : Operand} {vs : Array Value} {i : Nat} {v : Value} {dst : Option Nat} {g : Option (Nat × Bool)} (hx : σ.ev x = some (.tuple vs)) (hv : vs[i]? = some v) : Ex P σ ⟨dst, .extract x i, T, pos, after, g⟩ w v w := fun ρ ha => by
  simp [execOp, ha x _ hx, Instr.extract, hv]
theorem IS {rest : List Oper} {dst : Option Nat} {fv : Operand} {f : FuncId} {cap : List Value} {xs : Array Operand} {ats : Array TypeId} {vs : List Value} {Φ : Value → World → Prop} (hgo : dC P f) (hfv : σ.ev fv = some (.func (.func f) #[] cap.toArray)) (hxs : xs.toList.map σ.ev = vs.map some)
    (hc : Calls P f (vs ++ cap).toArray w (Ret Φ)) (hd : ∀ k, dst = some k → Nat.blt k N.1 = true)
    (h : ∀ v w', Φ v w' → WL P N ops R rest (match dst with | some k => (k, v) :: σ | none => σ) w') :
    WL P N ops R (⟨dst, .call ⟨.value fv, xs, ats⟩, T, pos, after, none⟩ :: rest) σ w := fun a ha => wpList_plain rfl fun K hK => by
  have hargs : xs.map a.eval = vs.toArray := by
    apply Array.ext'
    rw [Array.toList_map]
    have hag := ha.agrees
    clear hK hc h ha
    generalize xs.toList = l at *
    clear xs
    revert vs
    induction l with
    | nil => intro vs hxs; cases vs with | nil => rfl | cons _ _ => simp at hxs
    | cons x l ih =>
      intro vs hxs
      cases vs with
      | nil => simp at hxs
      | cons v vs =>
        simp only [List.map_cons, List.cons.injEq] at hxs
        simp only [List.map_cons, hag x v hxs.1]
        exact congrArg _ (ih hxs.2)
  obtain ⟨fn, hf, hn, hbd⟩ := hgo
  have hn' : ¬ fn.name = "runtime.NumGoroutine" := by simpa using hn
  have hb' : ¬ fn.body = none := by intro hh; simp [hh] at hbd
  unfold Oper.wp
  have hrun : (execOp a.eval ⟨dst, .call ⟨.value fv, xs, ats⟩, T, pos, after, none⟩).run P w = .ok (.enter f (vs ++ cap).toArray) w := by
    simp only [execOp, resolve, hargs, ha.agrees fv _ hfv]
    simp [Deferred.ofValue, invoke, callFunc, hf, hn', hb']
  rw [hrun]
  show Calls P f (vs ++ cap).toArray w _
  refine hc.mono ?_
  rintro e w' ⟨v, rfl, hΦ⟩
  cases dst with
  | none => exact hK _ _ (h v w' hΦ a ha)
  | some k => exact hK _ _ (h v w' hΦ _ (ha.put (of_decide_eq_true (by simpa using hd k rfl)) v))
theorem aG {rest : List Oper} {f : FuncId} {xs : Array Operand} {ats : Array TypeId} {vs : List Value} {Φ : Value → World → Prop} (hgo : dC P f) (hxs : xs.toList.map σ.ev = vs.map some)
    (hc : Calls P f vs.toArray w (Ret Φ)) (hd : Nat.blt d N.1 = true) (h : ∀ v w', Φ v w' → WL P N ops R rest ((d, v) :: σ) w') :
    WL P N ops R (⟨some d, .call ⟨.value (.func f), xs, ats⟩, T, pos, after, none⟩ :: rest) σ w := wl_call hgo hxs hc (fun k hk => by cases hk; exact hd) h
theorem GI {rest : List Oper} {fv : Operand} {f : FuncId} {cap : List Value} {xs : Array Operand} {ats : Array TypeId} {vs : List Value} {Φ : Value → World → Prop} (hgo : dC P f) (hfv : σ.ev fv = some (.func (.func f) #[] cap.toArray)) (hxs : xs.toList.map σ.ev = vs.map some)
    (hc : Calls P f (vs ++ cap).toArray w (Ret Φ)) (hd : Nat.blt d N.1 = true) (h : ∀ v w', Φ v w' → WL P N ops R rest ((d, v) :: σ) w') :
    WL P N ops R (⟨some d, .call ⟨.value fv, xs, ats⟩, T, pos, after, none⟩ :: rest) σ w := IS hgo hfv hxs hc (fun k hk => by cases hk; exact hd) h
end
section
variable {P : Program} {σ : Env} {w : World}
def EZ (tmps : Array Value) : ResultVar → Sem Value
  | .tmp t => pure (tmps.getD t undef)
  | .cell a t => do loadVar t (← asAddr (tmps.getD a undef))
def ResOk (P : Program) (σ : Env) (w : World) (r : ResultVar) (v : Value) : Prop := ∀ a, Fits (a.tmps.size, a.defers) σ a → (EZ a.tmps r).run P w = .ok v w
theorem ResOk.tmp {t : Tmp} {v : Value} (h : σ.get t = some v) : ResOk P σ w (.tmp t) v := fun a ha => by simp only [EZ, Sem.run_pure, ha.2.2 t v h]
theorem ResOk.cellA {t : Tmp} {ty U : TypeId} {b n : Nat} {cs : Array Value} {fz : Nat × Nat} (h : σ.get t = some (.pointer (some ⟨b, 0, none⟩))) (ha : hD P ty = some true) (hs : eS P ty = some n) (hb : w.heap[b]? = some (.cells cs U fz)) (hl : cs.size = n) : ResOk P σ w (.cell t ty) (.agg cs) := fun a hf => by
  obtain ⟨inf, hin, hsz⟩ := Option.map_eq_some_iff.1 hs
  have hr := gF (P := P) (w := w) b 0 n 0 #[] cs.toList (by simpa using hl) (fun j v hv => jS hb (by simpa using hv))
  simp [EZ, hf.2.2 t _ h, asAddr, loadVar, kW ha, sizeOf, typeInfo, hin, hsz, loadCells, hr]
theorem nR (fn : Func) (tmps : Array Value) : results fn tmps = ((fn.results.mapM (EZ tmps)) >>= fun vs => pure (if h : vs.size = 1 then vs[0] else Value.tuple vs)) := by
  unfold results
  congr 1
theorem tL {n : Nat} {fn : Func} {r : ResultVar} {v : Value} {Φ : Value → World → Prop} (hr : fn.results = #[r]) (h1 : ResOk P σ w r v) (h : Φ v w) : mI P fn (Ret Φ) .ret (n, []) σ w := ⟨rfl, fun a ha => by
  refine ⟨v, ?_, _, rfl, h⟩
  rw [nR, hr]
  simp [h1 a ha]⟩
theorem gK {n : Nat} {fn : Func} {r r' : ResultVar} {v v' : Value} {Φ : Value → World → Prop} (hr : fn.results = #[r, r']) (h1 : ResOk P σ w r v) (h2 : ResOk P σ w r' v') (h : Φ (.tuple #[v, v']) w) : mI P fn (Ret Φ) .ret (n, []) σ w := ⟨rfl, fun a ha => by
  refine ⟨.tuple #[v, v'], ?_, _, rfl, h⟩
  rw [nR, hr]
  simp [h1 a ha, h2 a ha]⟩
theorem EB {n : Nat} {fn : Func} {r r' r'' : ResultVar} {v v' v'' : Value} {Φ : Value → World → Prop} (hr : fn.results = #[r, r', r'']) (h1 : ResOk P σ w r v) (h2 : ResOk P σ w r' v') (h3 : ResOk P σ w r'' v'') (h : Φ (.tuple #[v, v', v'']) w) : mI P fn (Ret Φ) .ret (n, []) σ w := ⟨rfl, fun a ha => by
  refine ⟨.tuple #[v, v', v''], ?_, _, rfl, h⟩
  rw [nR, hr]
  simp [h1 a ha, h2 a ha, h3 a ha]⟩
theorem vX {n : Nat} {fn : Func} {t u x : Tmp} {v v' v'' : Value} {Φ : Value → World → Prop} (hr : fn.results = #[.tmp t, .tmp u, .tmp x]) (hv : σ.get t = some v) (hv' : σ.get u = some v') (hv'' : σ.get x = some v'') (h : Φ (.tuple #[v, v', v'']) w) : mI P fn (Ret Φ) .ret (n, []) σ w :=
  EB hr (.tmp hv) (.tmp hv') (.tmp hv'') h
end
section
variable {P : Program} {N : NN} {R : fJ} {σ : Env} {w : World} {ops : Array Oper} {rest : List Oper} {d : Nat} {op : Op} {T : TypeId} {pos : String} {after : Array Edge}
theorem bB {j : Nat} {pol b : Bool} {oj : Oper} {t : Nat} (h : WL P N ops R rest ((d, undef) :: σ) w) (hj : ops[j]? = some oj := by rfl) (ht : oj.dst = some t := by rfl) (hv : σ.get t = some (.bool b) := by rfl) (hb : b = !pol := by rfl) (hN : Nat.blt t N.1 = true := by rfl) (hd : Nat.blt d N.1 = true := by rfl) :
    WL P N ops R (⟨some d, op, T, pos, after, some (j, pol)⟩ :: rest) σ w := wl_no hj ht hv hb hN hd h
theorem dY {j : Nat} {pol : Bool} {oj : Oper} {t : Nat} (h : WL P N ops R rest ((d, undef) :: σ) w) (hj : ops[j]? = some oj := by rfl) (ht : oj.dst = some t := by rfl) (hv : σ.get t = some undef := by rfl) (hN : Nat.blt t N.1 = true := by rfl) (hd : Nat.blt d N.1 = true := by rfl) :
    WL P N ops R (⟨some d, op, T, pos, after, some (j, pol)⟩ :: rest) σ w := wl_nou hj ht hv hN hd h
theorem aW {dst : Option Nat} {j : Nat} {pol : Bool} {oj : Oper} {t : Nat} (h : WL P N ops R (⟨dst, op, T, pos, after, none⟩ :: rest) σ w) (hj : ops[j]? = some oj := by rfl) (ht : oj.dst = some t := by rfl) (hv : σ.get t = some (.bool pol) := by rfl) (hN : Nat.blt t N.1 = true := by rfl) :
    WL P N ops R (⟨dst, op, T, pos, after, some (j, pol)⟩ :: rest) σ w := wl_go hj ht hv hN h
theorem aD {x : Operand} {v : Value} (h : WL P N ops R rest ((d, v) :: σ) w) (hx : σ.ev x = some v := by rfl) (hd : Nat.blt d N.1 = true := by rfl) : WL P N ops R (⟨some d, .move x, T, pos, after, none⟩ :: rest) σ w := gD hd (aV hx) h
theorem cL {x : Operand} {v : Value} (h : WL P N ops R rest ((d, v) :: σ) w) (hx : σ.ev x = some v := by rfl) (hd : Nat.blt d N.1 = true := by rfl) : WL P N ops R (⟨some d, .assign x, T, pos, after, none⟩ :: rest) σ w := gD hd (fB hx) h
theorem bY {c x y : Operand} {v : Value} (h : WL P N ops R rest ((d, v) :: σ) w) (hc : σ.ev c = some (.bool false) := by rfl) (hx : σ.ev y = some v := by rfl) (hd : Nat.blt d N.1 = true := by rfl) : WL P N ops R (⟨some d, .pick c x y, T, pos, after, none⟩ :: rest) σ w := gD hd (dO hc hx) h
theorem cF {c x y : Operand} {v : Value} (h : WL P N ops R rest ((d, v) :: σ) w) (hc : σ.ev c = some (.bool true) := by rfl) (hx : σ.ev x = some v := by rfl) (hd : Nat.blt d N.1 = true := by rfl) : WL P N ops R (⟨some d, .pick c x y, T, pos, after, none⟩ :: rest) σ w := gD hd (dN hc hx) h
end
def jB {α : Type} (P : Program) (t : TypeId) (R : Rel α) : Prop :=
  ∀ (H : Type) (enc : TypeId × Value → H) (w : World) (fuel : Nat) (cs : List Value) (x : DataW H × List MemPlace), DataW.trod enc P w 0 (fun _ => true) true fuel t cs = some x →
    (∀ n, n ∈ x.1.weights P t → n ≤ reachBytes) → ∃ d, R [] w cs d
theorem HG {P : Program} {t : TypeId} {k : IntKind} (ht : P.underlying t = some (.int k)) : jB P t (RInt k) := by
  intro H enc w fuel cs x h _
  obtain ⟨n, hcs, _, hw⟩ := DataW.trod_int ht h
  refine ⟨n, hcs, ?_⟩
  simpa [Lit.wf] using hw
def RStrB : Rel ByteArray := fun _ _ vs s => vs = [.string s] ∧ s.size ≤ 140737488351232
theorem vF {P : Program} {t : TypeId} (ht : P.underlying t = some .string) : jB P t RStrB := by
  intro H enc w fuel cs x h hw
  obtain ⟨s, hcs, rfl, _⟩ := DataW.trod_string ht h
  refine ⟨s, hcs, ?_⟩
  have := hw s.data.toList.length (by simp [DataW.weights])
  simpa [reachBytes] using this
theorem vU {w : World} {a : Addr} {n : Nat} {vs : List Value} (h : w.cells? 0 a n = some vs) : vs.length = n ∧ ∀ j v, vs[j]? = some v → w.cell? (a.add j) = some v := by
  unfold World.cells? at h
  rw [if_pos (Nat.zero_le _)] at h
  have hl := mapM_some_length h
  refine ⟨by simpa using hl, fun j v hv => ?_⟩
  have hj : j < n := by have := (List.getElem?_eq_some_iff.1 hv).1; simp at hl; omega
  have := mapM_some_get h j j (by simp [hj])
  rw [hv] at this
  exact this
theorem qM {H : Type} {P : Program} {e : TypeId} : ∀ {l : List (DataW H)} {d : DataW H}, d ∈ l → ∀ n, n ∈ d.weights P e → n ∈ DataW.weightsAll P e l
  | [], _, h, _, _ => by cases h
  | x :: l, d, h, n, hn => by
    simp only [DataW.weightsAll, List.mem_append]
    rcases List.mem_cons.1 h with rfl | h
    · exact .inl hn
    · exact .inr (qM h n hn)
def IM {α : Type} (sz bytes : Nat) (R : Rel α) : Rel (List α) := fun X w vs ds => ∃ v, vs = [v] ∧ RSl sz R X w v ds ∧ ds.length * bytes ≤ 140737488351232
theorem kD {α : Type} {P : Program} {t e : TypeId} {R : Rel α} {sz bytes : Nat} (ht : P.underlying t = some (.slice e)) (hs : P.cellsOf e = sz) (hb : P.bytesOf e = bytes) (h0 : 0 < sz) (hR : jB P e R) : jB P t (IM sz bytes R) := by
  subst hs hb
  intro H enc w fuel cs x h hw
  rcases DataW.trod_slice ht h with ⟨rfl, rfl⟩ | ⟨a, len, cap, elems, rest, n, rfl, rfl, rfl, _, hle, _, hel, hat, _, _⟩
  · exact ⟨[], .slice none 0 0, rfl, ⟨none, 0, rfl, Nat.le_refl _, fun k hk => by simp at hk⟩, by simp⟩
  · have hwl : (elems.length + rest.length) * P.bytesOf e ≤ 140737488351232 := by
      have := hw _ (by simp [DataW.weights, ht]; exact .inl rfl)
      simpa [reachBytes] using this
    have hwe : ∀ i (hi : i < elems.length) m, m ∈ (elems[i]).1.weights P e → m ≤ reachBytes := fun i hi m hm => by
      refine hw m ?_
      simp only [DataW.weights, ht, List.mem_cons, List.mem_append]
      exact .inr (.inl (qM (List.mem_map.2 ⟨elems[i], List.getElem_mem hi, rfl⟩) m hm))
    have key : ∀ i (hi : i < len), ∃ b o vs d, a = ⟨b, o, none⟩ ∧ vs.length = P.cellsOf e ∧ CellsAt w b (o + i * P.cellsOf e) vs ∧ R [] w vs d := by
      intro i hi
      have h1 := hat i hi
      have hi' : i < elems.length := by omega
      rw [List.getElem?_eq_getElem hi'] at h1
      obtain ⟨vs, hvs, htr⟩ := Option.bind_eq_some_iff.1 h1
      obtain ⟨hl, hc⟩ := vU hvs
      obtain ⟨d, hd⟩ := hR H enc w n vs _ htr (hwe i hi')
      obtain ⟨b, o, spot⟩ := a
      have hspot : spot = none := by
        cases vs with
        | nil => simp at hl; omega
        | cons v0 vs =>
          have h2 := hc 0 v0 (by simp)
          have h3 := World.cell?_spot h2
          by_cases hz : i * P.cellsOf e = 0
          · rw [hz] at h3; simpa [Addr.add] using h3
          · have hz' : i * P.cellsOf e ≠ 0 := hz
            have hat0 := hat 0 (by omega)
            rw [List.getElem?_eq_getElem (by omega)] at hat0
            obtain ⟨us, hus, _⟩ := Option.bind_eq_some_iff.1 hat0
            obtain ⟨hul, huc⟩ := vU hus
            cases us with
            | nil => simp at hul; omega
            | cons u0 us =>
              have h4 := World.cell?_spot (huc 0 u0 (by simp))
              simpa [Addr.add] using h4
      subst hspot
      refine ⟨b, o, vs, d, rfl, hl, fun j v hv => ?_, hd⟩
      have h2 := hc j v hv
      have hadd : ((⟨b, o, none⟩ : Addr).add (i * P.cellsOf e)).add j = ⟨b, o + i * P.cellsOf e + j, none⟩ := by
        unfold Addr.add
        split <;> split <;> simp_all
      rw [hadd] at h2
      exact h2
    have hex : ∀ m, m ≤ len → ∃ ds : List α, ds.length = m ∧ ∀ k (hk : k < ds.length), ∃ b o vs, some a = some ⟨b, o, none⟩ ∧ b ∉ ([] : List Nat) ∧ vs.length = P.cellsOf e ∧ CellsAt w b (o + k * P.cellsOf e) vs ∧ R [] w vs ds[k] := by
      intro m
      induction m with
      | zero => exact fun _ => ⟨[], rfl, fun k hk => by simp at hk⟩
      | succ m ih =>
        intro hm
        obtain ⟨ds, hl, hds⟩ := ih (by omega)
        obtain ⟨b, o, vs, d, ha, h1, h2, h3⟩ := key m (by omega)
        refine ⟨ds ++ [d], by simp [hl], fun k hk => ?_⟩
        by_cases hkm : k < ds.length
        · rw [List.getElem_append_left hkm]; exact hds k hkm
        · obtain rfl : k = m := by simp at hk; omega
          rw [List.getElem_append_right (by omega)]
          simp only [hl, Nat.sub_self, List.getElem_cons_zero]
          exact ⟨b, o, vs, by rw [ha], by simp, h1, h2, h3⟩
    obtain ⟨ds, hl, hds⟩ := hex len (Nat.le_refl _)
    refine ⟨ds, .slice (some a) len cap, rfl, ⟨some a, cap, by rw [hl], by omega, hds⟩, ?_⟩
    rw [hl, ← hel]
    exact Nat.le_trans (Nat.mul_le_mul_right _ (Nat.le_add_right _ _)) hwl
theorem tW {H : Type} {P : Program} {t : TypeId} {fs : Array Field} (ht : P.underlying t = some (.struct fs)) {xs : List (DataW H)} {i : Nat} {f : Field} {d : DataW H} (hf : fs[i]? = some f) (hd : xs[i]? = some d) : ∀ n, n ∈ d.weights P f.type → n ∈ (DataW.agg xs).weights P t := fun n hn => by
  simp only [DataW.weights, ht]
  exact DataW.weights_mem_each (j := i) (by simp [hf]) hd n hn
theorem AG {α H : Type} {P : Program} {t : TypeId} {fs : Array Field} {enc : TypeId × Value → H} {w : World} {fuel : Nat} {cs : List Value} {x : DataW H × List MemPlace} (ht : P.underlying t = some (.struct fs))
    (h : DataW.trod enc P w 0 (fun _ => true) true fuel t cs = some x) (hw : ∀ n, n ∈ x.1.weights P t → n ≤ reachBytes) (i : Nat) {f : Field} (hf : fs[i]? = some f) {R : Rel α} (hR : jB P f.type R) : ∃ d, R [] w ((cs.drop f.offset).take (P.cellsOf f.type)) d := by
  obtain ⟨xs, n, rfl, rfl, hl, hlen, hx⟩ := DataW.trod_struct ht h
  have hi : i < xs.length := by rw [hlen]; exact (Array.getElem?_eq_some_iff.1 hf).1
  have h1 := hx i f hf
  rw [List.getElem?_eq_getElem hi] at h1
  exact hR H enc w n _ _ h1 (fun m hm => hw m (tW ht hf (by simp [hi]) m hm))
theorem fG {α H : Type} {P : Program} {t T off m : Nat} {fs : Array Field} {enc : TypeId × Value → H} {w : World} {fuel : Nat} {cs : List Value} {x : DataW H × List MemPlace} (ht : P.underlying t = some (.struct fs))
    (h : DataW.trod enc P w 0 (fun _ => true) true fuel t cs = some x) (hw : ∀ n, n ∈ x.1.weights P t → n ≤ reachBytes) (i : Nat) {f : Field} (hf : fs[i]? = some f) (hT : f.type = T) (ho : f.offset = off) (hm : P.cellsOf T = m) {R : Rel α} (hR : jB P T R) : ∃ d, R [] w ((cs.drop off).take m) d := by
  subst hT ho hm
  exact AG ht h hw i hf hR
theorem mT {H : Type} {P : Program} {t : TypeId} {fs : Array Field} {enc : TypeId × Value → H} {w : World} {fuel : Nat} {cs : List Value} {x : DataW H × List MemPlace} (ht : P.underlying t = some (.struct fs))
    (h : DataW.trod enc P w 0 (fun _ => true) true fuel t cs = some x) : cs.length = P.cellsOf t := by
  obtain ⟨_, _, _, _, hl, _⟩ := DataW.trod_struct ht h
  exact hl
theorem EL {k : IntKind} (hk : k.signed = false) (n : Nat) : k.wrap (n : Int) = ((n % 2 ^ k.bits : Nat) : Int) := by
  cases k <;> simp [IntKind.signed] at hk <;> simp [IntKind.wrap, IntKind.signed, IntKind.bits]
def u64 (n : Int) : Nat := (n % 18446744073709551616).toNat
def i64 (n : Int) : Int := if n % 18446744073709551616 < 9223372036854775808 then n % 18446744073709551616 else n % 18446744073709551616 - 18446744073709551616
theorem DO (n : Int) : IntKind.i64.wrap n = i64 n := by
  simp [IntKind.wrap, IntKind.signed, IntKind.bits, i64]
  split <;> split <;> omega
theorem pR (n : Int) : IntKind.u64.wrap n = ((u64 n : Nat) : Int) := by
  simp [IntKind.wrap, IntKind.signed, IntKind.bits, u64]; omega
theorem gE (n : Int) : u64 n < 18446744073709551616 := by unfold u64; omega
theorem iM (n : Int) : -9223372036854775808 ≤ i64 n ∧ i64 n ≤ 9223372036854775807 := by unfold i64; split <;> omega
theorem kK {n : Int} (h : -9223372036854775808 ≤ n) (h' : n ≤ 9223372036854775807) : i64 n = n := by unfold i64; split <;> omega
theorem wB {n : Nat} (h : n < 18446744073709551616) : u64 n = n := by unfold u64; omega
theorem rW (n : Int) : i64 (u64 n) = i64 n := by unfold i64 u64; omega
section
variable {P : Program} {σ : Env} {w : World} {dst : Option Nat} {T : TypeId} {pos : String} {after : Array Edge} {g : Option (Nat × Bool)}
theorem lJ {x y : Operand} {t t' : TypeId} {k yk : IntKind} {m n : Nat} {x' z : Int} (hx : σ.ev x = some (.int k x')) (hy : σ.ev y = some (.int yk z)) (hm : x' = ((m : Nat) : Int)) (hz : z = ((n : Nat) : Int)) (hn : n ≤ k.bits) :
    Ex P σ ⟨dst, .binOp .shr t x y t', T, pos, after, g⟩ w (.int k ((m / 2 ^ n : Nat) : Int)) w := fun ρ h => by
  subst hm hz
  have h0 : ¬ ((n : Nat) : Int) < 0 := by omega
  have h2 : ((m : Nat) : Int).fdiv (2 ^ n) = ((m / 2 ^ n : Nat) : Int) := by rw [Int.fdiv_eq_ediv_of_nonneg _ (by exact_mod_cast Nat.zero_le (2 ^ n))]; push_cast; rfl
  simp only [execOp, h x _ hx, h y _ hy]
  simp only [eqGuard, Go.binOp, Op.shift, Sem.run_bind, Sem.run_pure, Result.andThen_ok, if_neg h0, Int.toNat_natCast, Nat.min_eq_left hn, h2]
  simp
theorem cO {x y : Operand} {t t' : TypeId} {k yk : IntKind} {m n : Nat} {x' z : Int} (hx : σ.ev x = some (.int k x')) (hy : σ.ev y = some (.int yk z)) (hm : x' = ((m : Nat) : Int)) (hz : z = ((n : Nat) : Int)) (hn : n ≤ k.bits) (hk : k.signed = false) :
    Ex P σ ⟨dst, .binOp .shl t x y t', T, pos, after, g⟩ w (.int k ((m * 2 ^ n % 2 ^ k.bits : Nat) : Int)) w := fun ρ h => by
  subst hm hz
  have h0 : ¬ ((n : Nat) : Int) < 0 := by omega
  have h2 : k.wrap (((m : Nat) : Int) * 2 ^ n) = ((m * 2 ^ n % 2 ^ k.bits : Nat) : Int) := by rw [← EL hk (m * 2 ^ n)]; push_cast; rfl
  simp only [execOp, h x _ hx, h y _ hy]
  simp only [eqGuard, Go.binOp, Op.shift, Sem.run_bind, Sem.run_pure, Result.andThen_ok, if_neg h0, Int.toNat_natCast, Nat.min_eq_left hn, h2]
  simp
theorem tO {k : IntKind} {m n : Nat} (hk : k.signed = false) (hm : m < 2 ^ k.bits) (hn : n < 2 ^ k.bits) : (BitVec.ofInt k.bits m).toNat = m ∧ (BitVec.ofInt k.bits n).toNat = n := by
  constructor
  · rw [BitVec.ofInt_natCast, BitVec.toNat_ofNat, Nat.mod_eq_of_lt hm]
  · rw [BitVec.ofInt_natCast, BitVec.toNat_ofNat, Nat.mod_eq_of_lt hn]
theorem wW {x y : Operand} {t t' : TypeId} {k : IntKind} {m n : Nat} {x' z : Int} (hx : σ.ev x = some (.int k x')) (hy : σ.ev y = some (.int k z)) (hm : x' = ((m : Nat) : Int)) (hz : z = ((n : Nat) : Int)) (hk : k.signed = false) (h1 : m < 2 ^ k.bits) (h2 : n < 2 ^ k.bits) :
    Ex P σ ⟨dst, .binOp .and t x y t', T, pos, after, g⟩ w (.int k ((m &&& n : Nat) : Int)) w := fun ρ h => by
  subst hm hz
  obtain ⟨e1, e2⟩ := tO hk h1 h2
  simp only [execOp, h x _ hx, h y _ hy]
  have hr := EL hk (m &&& n)
  rw [Nat.mod_eq_of_lt (Nat.lt_of_le_of_lt Nat.and_le_left h1)] at hr
  simp only [eqGuard, Go.binOp, Op.intBits, Sem.run_bind, Sem.run_pure, Result.andThen_ok, BitVec.toNat_and, e1, e2, hr]
  simp
theorem LF {x y : Operand} {t t' : TypeId} {k : IntKind} {m n : Nat} {x' z : Int} (hx : σ.ev x = some (.int k x')) (hy : σ.ev y = some (.int k z)) (hm : x' = ((m : Nat) : Int)) (hz : z = ((n : Nat) : Int)) (hk : k.signed = false) (h1 : m < 2 ^ k.bits) (h2 : n < 2 ^ k.bits) :
    Ex P σ ⟨dst, .binOp .or t x y t', T, pos, after, g⟩ w (.int k ((m ||| n : Nat) : Int)) w := fun ρ h => by
  subst hm hz
  obtain ⟨e1, e2⟩ := tO hk h1 h2
  simp only [execOp, h x _ hx, h y _ hy]
  have hr := EL hk (m ||| n)
  rw [Nat.mod_eq_of_lt (Nat.or_lt_two_pow h1 h2)] at hr
  simp only [eqGuard, Go.binOp, Op.intBits, Sem.run_bind, Sem.run_pure, Result.andThen_ok, BitVec.toNat_or, e1, e2, hr]
  simp
theorem cN {x y : Operand} {t t' : TypeId} {k : IntKind} {m n : Nat} {x' z : Int} (hx : σ.ev x = some (.int k x')) (hy : σ.ev y = some (.int k z)) (hm : x' = ((m : Nat) : Int)) (hz : z = ((n : Nat) : Int)) (hk : k.signed = false) (h1 : m < 2 ^ k.bits) (h2 : n < 2 ^ k.bits) :
    Ex P σ ⟨dst, .binOp .xor t x y t', T, pos, after, g⟩ w (.int k ((m ^^^ n : Nat) : Int)) w := fun ρ h => by
  subst hm hz
  obtain ⟨e1, e2⟩ := tO hk h1 h2
  simp only [execOp, h x _ hx, h y _ hy]
  have hr := EL hk (m ^^^ n)
  rw [Nat.mod_eq_of_lt (Nat.xor_lt_two_pow h1 h2)] at hr
  simp only [eqGuard, Go.binOp, Op.intBits, Sem.run_bind, Sem.run_pure, Result.andThen_ok, BitVec.toNat_xor, e1, e2, hr]
  simp
theorem ex_neg {x : Operand} {t : TypeId} {k : IntKind} {n : Int} (hx : σ.ev x = some (.int k n)) : Ex P σ ⟨dst, .unOp .neg t x, T, pos, after, g⟩ w (.int k (k.wrap (-n))) w := fun ρ h => by
  simp [execOp, h x _ hx, Op.unary, Op.intArith]
theorem wV {x : Operand} {t t' : TypeId} {k k' : IntKind} {n : Int} (hx : σ.ev x = some (.int k n)) (ht : P.underlying t = some (.int k)) (ht' : P.underlying t' = some (.int k')) :
    Ex P σ ⟨dst, .convert t t' x, T, pos, after, g⟩ w (.int k' (k'.wrap n)) w := fun ρ h => by
  simp [execOp, h x _ hx, convert, run_underlying ht, run_underlying ht', Conv.intToInt]
theorem jQ {x : Operand} {t t' : TypeId} {k k' : IntKind} {n : Int} (hx : σ.ev x = some (.int k n)) (ht : P.underlying t = some (.int k)) (ht' : P.underlying t' = some (.int k')) (h1 : k'.min ≤ n) (h2 : n ≤ k'.max) :
    Ex P σ ⟨dst, .convert t t' x, T, pos, after, g⟩ w (.int k' n) w := by
  have := wV (w := w) (dst := dst) (T := T) (pos := pos) (after := after) (g := g) hx ht ht'
  rwa [oB h1 h2] at this
theorem cX {x : Operand} {t t' : TypeId} {k : IntKind} {n : Int} (hx : σ.ev x = some (.int k n)) (ht : P.underlying t = some (.int k)) (ht' : P.underlying t' = some (.int .u64)) :
    Ex P σ ⟨dst, .convert t t' x, T, pos, after, g⟩ w (.int .u64 ((u64 n : Nat) : Int)) w := by
  have := wV (w := w) (dst := dst) (T := T) (pos := pos) (after := after) (g := g) hx ht ht'
  rwa [pR] at this
theorem fX {x : Operand} {t t' : TypeId} {k : IntKind} {n : Int} (hx : σ.ev x = some (.int k n)) (ht : P.underlying t = some (.int k)) (ht' : P.underlying t' = some (.int .i64)) :
    Ex P σ ⟨dst, .convert t t' x, T, pos, after, g⟩ w (.int .i64 (i64 n)) w := by
  have := wV (w := w) (dst := dst) (T := T) (pos := pos) (after := after) (g := g) hx ht ht'
  rwa [DO] at this
theorem FW {x y : Operand} {t t' : TypeId} {m n : Int} (hx : σ.ev x = some (.int .u64 m)) (hy : σ.ev y = some (.int .u64 n)) :
    Ex P σ ⟨dst, .binOp .add t x y t', T, pos, after, g⟩ w (.int .u64 ((u64 (m + n) : Nat) : Int)) w := by
  have := FV (P := P) (w := w) (dst := dst) (T := T) (pos := pos) (after := after) (g := g) (t := t) (t' := t') hx hy
  rwa [pR] at this
theorem FN {x y : Operand} {t t' : TypeId} {m n : Int} (hx : σ.ev x = some (.int .u64 m)) (hy : σ.ev y = some (.int .u64 n)) :
    Ex P σ ⟨dst, .binOp .sub t x y t', T, pos, after, g⟩ w (.int .u64 ((u64 (m - n) : Nat) : Int)) w := by
  have := wT (P := P) (w := w) (dst := dst) (T := T) (pos := pos) (after := after) (g := g) (t := t) (t' := t') hx hy
  rwa [pR] at this
theorem ex_mulU {x y : Operand} {t t' : TypeId} {m n : Int} (hx : σ.ev x = some (.int .u64 m)) (hy : σ.ev y = some (.int .u64 n)) :
    Ex P σ ⟨dst, .binOp .mul t x y t', T, pos, after, g⟩ w (.int .u64 ((u64 (m * n) : Nat) : Int)) w := by
  have := ex_mulw (P := P) (w := w) (dst := dst) (T := T) (pos := pos) (after := after) (g := g) (t := t) (t' := t') hx hy
  rwa [pR] at this
theorem FX {x y : Operand} {t t' : TypeId} {m n : Int} (hx : σ.ev x = some (.int .i64 m)) (hy : σ.ev y = some (.int .i64 n)) :
    Ex P σ ⟨dst, .binOp .add t x y t', T, pos, after, g⟩ w (.int .i64 (i64 (m + n))) w := by
  have := FV (P := P) (w := w) (dst := dst) (T := T) (pos := pos) (after := after) (g := g) (t := t) (t' := t') hx hy
  rwa [DO] at this
theorem oM {x y : Operand} {t t' : TypeId} {m n : Int} (hx : σ.ev x = some (.int .i64 m)) (hy : σ.ev y = some (.int .i64 n)) :
    Ex P σ ⟨dst, .binOp .sub t x y t', T, pos, after, g⟩ w (.int .i64 (i64 (m - n))) w := by
  have := wT (P := P) (w := w) (dst := dst) (T := T) (pos := pos) (after := after) (g := g) (t := t) (t' := t') hx hy
  rwa [DO] at this
theorem kE {x y : Operand} {t t' : TypeId} {k : IntKind} {m n : Nat} {x' z : Int} (hx : σ.ev x = some (.int k x')) (hy : σ.ev y = some (.int k z)) (hm : x' = ((m : Nat) : Int)) (hz : z = ((n : Nat) : Int)) (hn : 0 < n) (hmax : (m : Int) ≤ k.max) :
    Ex P σ ⟨dst, .binOp .quo t x y t', T, pos, after, g⟩ w (.int k ((m / n : Nat) : Int)) w := fun ρ h => by
  subst hm hz
  have hmin : k.min ≤ 0 := by cases k <;> simp [IntKind.min, IntKind.signed, IntKind.bits]
  have hle : m / n ≤ m := Nat.div_le_self _ _
  generalize hq : m / n = q at *
  have hr : k.wrap ((q : Nat) : Int) = ((q : Nat) : Int) := oB (by omega) (by omega)
  simp only [execOp, h x _ hx, h y _ hy]
  simp only [eqGuard, Go.binOp, Op.intDiv, Sem.run_bind, Sem.run_pure, Result.andThen_ok]
  have : (Int.tdiv (m : Int) n) = ((q : Nat) : Int) := by rw [Int.tdiv_eq_ediv_of_nonneg (by omega), ← hq]; rfl
  simp [this, hr, show ¬ (n : Nat) = 0 by omega]
theorem oN {x y : Operand} {t t' : TypeId} {k : IntKind} {m n : Nat} {x' z : Int} (hx : σ.ev x = some (.int k x')) (hy : σ.ev y = some (.int k z)) (hm : x' = ((m : Nat) : Int)) (hz : z = ((n : Nat) : Int)) (hn : 0 < n) :
    Ex P σ ⟨dst, .binOp .rem t x y t', T, pos, after, g⟩ w (.int k ((m % n : Nat) : Int)) w := fun ρ h => by
  subst hm hz
  simp only [execOp, h x _ hx, h y _ hy]
  simp only [eqGuard, Go.binOp, Op.intDiv, Sem.run_bind, Sem.run_pure, Result.andThen_ok]
  have : (Int.tmod (m : Int) n) = ((m % n : Nat) : Int) := by rw [Int.tmod_eq_emod_of_nonneg (by omega)]; rfl
  simp [this, show ¬ (n : Nat) = 0 by omega]
theorem FT {bop : BinOp} {x y : Operand} {t t' : TypeId} {k : FloatKind} {m n : Nat} {b : Bool} (hop : bop = .eql ∨ bop = .neq ∨ bop = .lss ∨ bop = .leq ∨ bop = .gtr ∨ bop = .geq) (hx : σ.ev x = some (.float k m)) (hy : σ.ev y = some (.float k n))
    (hb : ∀ w : World, (Op.floatCmp bop k m n).run P w = .ok (.bool b) w) : Ex P σ ⟨dst, .binOp bop t x y t', T, pos, after, g⟩ w (.bool b) w := fun ρ h => by
  simp only [execOp, h x _ hx, h y _ hy]
  rcases hop with rfl | rfl | rfl | rfl | rfl | rfl <;> simp [eqGuard, Go.binOp, hb]
theorem oO {x y : Operand} {t t' : TypeId} {k : FloatKind} {m n : Nat} (hx : σ.ev x = some (.float k m)) (hy : σ.ev y = some (.float k n)) :
    Ex P σ ⟨dst, .binOp .neq t x y t', T, pos, after, g⟩ w (.bool (k.format.order m n != some .eq)) w := FT (.inr (.inl rfl)) hx hy (fun w => by simp [Op.floatCmp])
theorem vS {f : FuncId} {fn : Func} {xs : Array Operand} {ats : Array TypeId} {vs : List Value} {v : Value} {e : Array Value → Sem Value} {w' : World} (hf : P.funcs[f]? = some fn) (hn : (fn.name == "runtime.NumGoroutine") = false) (hb : fn.body.isNone = true)
    (hnx : (Extern.findNext fn).isNone = true) (he : Extern.find fn = some e) (hxs : xs.toList.map σ.ev = vs.map some) (hr : (e vs.toArray).run P w = .ok v w') : Ex P σ ⟨dst, .call ⟨.value (.func f), xs, ats⟩, T, pos, after, g⟩ w v w' := fun ρ h => by
  have hargs : xs.map ρ = vs.toArray := by
    apply Array.ext'
    rw [Array.toList_map]
    clear hr
    generalize xs.toList = l at *
    clear xs
    revert vs
    induction l with
    | nil => intro vs hxs; cases vs with | nil => rfl | cons _ _ => simp at hxs
    | cons x l ih =>
      intro vs hxs
      cases vs with
      | nil => simp at hxs
      | cons v vs =>
        simp only [List.map_cons, List.cons.injEq] at hxs
        simp only [List.map_cons, h x v hxs.1]
        exact congrArg _ (ih hxs.2)
  have hn' : ¬ fn.name = "runtime.NumGoroutine" := by simpa using hn
  have hnx' : Extern.findNext fn = none := by simpa using hnx
  have hfun : ρ (.func f) = .func (.func f) #[] #[] := h _ _ rfl
  have hcl : (callFunc f vs.toArray).run P w = .ok (.value v) w' := by
    simp only [callFunc, Sem.run_bind, run_program, Result.andThen_ok, hf, hn, hb, hnx', he, run_mark, Sem.run_pure]
    simp [hr]
  simp only [execOp, resolve, hargs, hfun]
  simp [Deferred.ofValue, invoke, hcl]
end
def RB : Rel Nat := fun _ _ vs n => vs = [.int .u8 (n : Int)] ∧ n < 256
theorem RB.pers : RB.Pers := fun _ _ _ _ _ _ h => h
theorem RB.fresh : RB.Fresh := fun _ _ _ _ _ _ h => h
def bstr (ds : List Nat) : ByteArray := ⟨(ds.map UInt8.ofNat).toArray⟩
theorem oT {a b : List Nat} (ha : ∀ x, x ∈ a → x < 256) (hb : ∀ x, x ∈ b → x < 256) : bstr a = bstr b ↔ a = b := by
  constructor
  · intro h
    have h1 : a.map UInt8.ofNat = b.map UInt8.ofNat := by
      have := congrArg (fun x : ByteArray => x.data.toList) h
      simpa [bstr] using this
    clear h
    induction a generalizing b with
    | nil => cases b with | nil => rfl | cons _ _ => simp at h1
    | cons x a ih =>
      cases b with
      | nil => simp at h1
      | cons y b =>
        simp only [List.map_cons, List.cons.injEq] at h1
        have hx := ha x (by simp)
        have hy := hb y (by simp)
        have h2 := congrArg UInt8.toNat h1.1
        simp [UInt8.toNat_ofNat'] at h2
        rw [ih (fun z hz => ha z (List.mem_cons_of_mem _ hz)) (fun z hz => hb z (List.mem_cons_of_mem _ hz)) h1.2]
        congr 1
        omega
  · intro h; rw [h]
section
variable {P : Program} {σ : Env} {w : World} {dst : Option Nat} {T : TypeId} {pos : String} {after : Array Edge} {g : Option (Nat × Bool)}
theorem vO : ∀ (ds : List Nat) (s : ByteArray), (ds.map (fun n : Nat => (n : Int))).foldl (fun r n => r.push (UInt8.ofNat n.toNat)) s = ⟨s.data ++ (ds.map UInt8.ofNat).toArray⟩
  | [], s => by simp
  | d :: ds, s => by
    simp only [List.map_cons, List.foldl_cons]
    rw [vO ds]
    simp [ByteArray.push]
theorem mZ {x : Operand} {t t' e : TypeId} {v : Value} {X : List Nat} {ds : List Nat} (hx : σ.ev x = some v) (hv : RSl 1 RB X w v ds) (ht : P.underlying t = some (.slice e)) (he : P.underlying e = some (.int .u8)) (ht' : P.underlying t' = some .string) :
    Ex P σ ⟨dst, .convert t t' x, T, pos, after, g⟩ w (.string (bstr ds)) w := fun ρ h => by
  obtain ⟨a, c, rfl, hc, hr⟩ := hv
  have hrun : (Conv.bytesToString (.slice a ds.length c)).run P w = .ok (.string (bstr ds)) w := by
    cases a with
    | none =>
      cases ds with
      | nil => simp [Conv.bytesToString, bstr]; rfl
      | cons d ds => obtain ⟨_, _, _, h, _⟩ := hr 0 (by simp); cases h
    | some a =>
      have hl : (loadCells a ds.length).run P w = .ok ((ds.map (fun n : Nat => (n : Int))).map (Value.int .u8)).toArray w := by
        cases hd : ds with
        | nil => simp [loadCells, loadCellsFrom]
        | cons d0 dr =>
          obtain ⟨b, o, _, ha, _⟩ := hr 0 (by simp [hd])
          cases ha
          rw [← hd]
          have := gF (P := P) (w := w) b o ds.length 0 #[] (ds.map fun n : Nat => Value.int .u8 (n : Int)) (by simp) (fun j v hj => by
            simp only [List.getElem?_map, Option.map_eq_some_iff] at hj
            obtain ⟨d, hdj, rfl⟩ := hj
            obtain ⟨hlt, hdd⟩ := List.getElem?_eq_some_iff.1 hdj
            obtain ⟨b', o', vs, ha', _, _, hcs, hvs, _⟩ := hr j hlt
            cases ha'
            have := hcs 0 _ (by rw [hvs]; rfl)
            simpa [hdd] using this)
          simpa [loadCells, Function.comp_def] using this
      rw [run_bytesToString w a ds.length c _ hl, vO]
      simp [bstr]
  simp [execOp, h x _ hx, run_convert_bytes_string w t t' e a ds.length c ht he ht', hrun]
theorem LE {x : Operand} {lo hi : Option Operand} {t e : TypeId} {sz a len c} {l h : Nat} {lv hv : Option Int} (hx : σ.ev x = some (.slice a len c)) (ht : P.underlying t = some (.slice e)) (hs : eS P e = some sz)
    (hlo : (lo.map σ.ev) = lv.map (fun n => some (Value.int .i64 n))) (hhi : (hi.map σ.ev) = hv.map (fun n => some (Value.int .i64 n))) (hl : lv.getD 0 = (l : Nat)) (hh : hv.getD len = (h : Nat)) (hlh : l ≤ h) (hhc : h ≤ c) (hlen : len ≤ c) :
    Ex P σ ⟨dst, .slice t x lo hi none, T, pos, after, g⟩ w (.slice (if c = l then a else a.map (·.add (l * sz))) (h - l) (c - l)) w := fun ρ hρ => by
  obtain ⟨inf, hin, hsz⟩ := Option.map_eq_some_iff.1 hs
  have hL : lo.map ρ = lv.map (fun n => Value.int .i64 n) := by
    cases lo <;> cases lv <;> simp_all
    exact hρ _ _ hlo
  have hH : hi.map ρ = hv.map (fun n => Value.int .i64 n) := by
    cases hi <;> cases hv <;> simp_all
    exact hρ _ _ hhi
  have hb : (Instr.sliceBounds true len c (lo.map ρ) (hi.map ρ) none).run P w = .ok (l, h, c) w := by
    rw [hL, hH]
    cases lv with
    | none =>
      have : l = 0 := by simpa using hl.symm
      subst this
      cases hv with
      | none => have : h = len := by simp at hh; omega
                subst this; simp [Instr.sliceBounds]
      | some n =>
        have : n = (h : Int) := by simpa using hh
        subst this
        simp [Instr.sliceBounds, Instr.sliceBound, asIntOf, hhc]
    | some m =>
      have : m = (l : Int) := by simpa using hl
      subst this
      cases hv with
      | none => have : h = len := by simp at hh; omega
                subst this; simp [Instr.sliceBounds, Instr.sliceBound, asIntOf, hlh]
      | some n =>
        have : n = (h : Int) := by simpa using hh
        subst this
        simp [Instr.sliceBounds, Instr.sliceBound, asIntOf, hhc, hlh]
  simp only [execOp, hρ x _ hx, Instr.sliceAt, run_underlying ht, Sem.run_bind, Result.andThen_ok, Instr.slice, hb]
  simp [sizeOf, typeInfo, hin, hsz, hb]
end
section
variable {P : Program} {N : NN} {R : fJ} {σ : Env} {w : World} {ops : Array Oper} {rest : List Oper} {d : Nat} {T : TypeId} {pos : String} {after : Array Edge}
def vJ (P : Program) (t : TypeId) : Option (TypeId × Nat × Nat × Array Value) :=
  match P.underlying t with
  | some (.slice e) => match P.info? e with
    | some i => match i.zero with
      | some z => if z.cells.size = i.size then some (e, i.size, i.bytes, z.cells) else none
      | none => none
    | none => none
  | _ => none
def gW (z : Array Value) (n : Nat) : List Value := (List.replicate n z.toList).flatten
theorem pO (z : Array Value) (n : Nat) : (gW z n).length = n * z.size := by simp [gW]
theorem uA {z : Array Value} {n k : Nat} (hz : 0 < z.size) (h : k < n) : (madeCells z n)[k]? = some (z[k % z.size]'(Nat.mod_lt _ hz)) := by
  simp [madeCells, h, Nat.mod_lt _ hz]
theorem uW {z : Array Value} : ∀ {n k : Nat} (hz : 0 < z.size), k < n * z.size → (gW z n)[k]? = some (z[k % z.size]'(Nat.mod_lt _ hz))
  | 0, k, _, h => by simp at h
  | n + 1, k, hz, h => by
    have e : gW z (n + 1) = z.toList ++ gW z n := by simp [gW, List.replicate_succ]
    rw [e, List.getElem?_append]
    split
    · rename_i hk
      simp at hk
      simp [hk, Nat.mod_eq_of_lt hk]
    · rename_i hk
      simp at hk
      rw [Nat.add_mul] at h
      rw [uW hz (by simp; omega)]
      simp only [Array.length_toList, Option.some.injEq]
      congr 1
      rw [Nat.mod_eq_sub_mod hk]
theorem rM {z : Array Value} {n l : Nat} (hz : 0 < z.size) (hl : l ≤ n) : ((madeCells z (n * z.size)).toList.take (l * z.size)) = gW z l := by
  have hle : l * z.size ≤ n * z.size := Nat.mul_le_mul_right _ hl
  apply List.ext_getElem?
  intro k
  rw [List.getElem?_take]
  split
  · rename_i hk
    rw [uW hz hk]
    have := uA (z := z) (n := n * z.size) (k := k) hz (by omega)
    simpa using this
  · rename_i hk
    rw [List.getElem?_eq_none]
    rw [pO]; omega
theorem rN {t e : TypeId} {x y : Operand} {kl kc : IntKind} {lv cv : Int} {sz bytes len c : Nat} {z : Array Value} (hd : Nat.blt d N.1 = true) (hx : σ.ev x = some (.int kl lv)) (hy : σ.ev y = some (.int kc cv)) (hf : vJ P t = some (e, sz, bytes, z))
    (hlv : lv = (len : Nat)) (hcv : cv = (c : Nat)) (hlc : len ≤ c) (hz : 0 < z.size) (hb : bytes * c ≤ 140737488355328) (hcm : c ≤ 140737488355328)
    (h : ∀ b w', OwnS w' e sz (some ⟨b, 0, none⟩) len c (gW z len) (some b) → w.heap.size = b → Evo [] w w' → WL P N ops R rest ((d, .slice (some ⟨b, 0, none⟩) len c) :: σ) w') :
    WL P N ops R (⟨some d, .makeSlice t x y, T, pos, after, none⟩ :: rest) σ w := by
  subst hlv hcv
  simp only [vJ] at hf
  split at hf <;> try cases hf
  rename_i e' ht
  split at hf <;> try cases hf
  rename_i i hi
  split at hf <;> try cases hf
  rename_i z' hz'
  split at hf <;> try cases hf
  rename_i hsz
  have hbb : (i.bytes : Int) * (c : Int) ≤ 281474976710656 := by
    have : ((i.bytes * c : Nat) : Int) ≤ 281474976710656 := by omega
    rwa [Int.natCast_mul] at this
  have hr := run_make (P := P) w t _ i _ ht hi hz' kl kc len c (by omega) (by omega) hbb (by omega)
  simp only [Int.toNat_natCast] at hr
  refine gD (w' := w.alloc (.cells (madeCells z'.cells (c * i.size)) e)) hd (fun ρ ha => ?_) (h w.heap.size _ ⟨by rw [pO, hsz], .inr ⟨w.heap.size, c, _, rfl, rfl, heap_alloc_new w _, hlc, by unfold maxLen; omega, size_madeCells _ _, ?_⟩⟩ rfl (iH w _))
  · simp [execOp, ha x _ hx, ha y _ hy, hr]
  · rw [← hsz]; exact rM hz hlc
end
end Go.W
namespace Go.W
open Go.RowKit
theorem wnn {P : Program} {N : NN} {ops : Array Oper} {R : fJ} {σ : Env} {w : World} {K : NN → Env → World → Prop} (h : K N σ w) : WL P N ops (kU K R) [] σ w := aE (aB h)
theorem csr {P : Program} {N : NN} {R : fJ} {σ : Env} {w : World} {id : Nat} {l : List Oper} {y : Code} (h : WL P N l.toArray (kU (fun N σ w => CW P N y R σ w) R) l σ w) : CW P N (.seq (.region id l.toArray false) y) R σ w := aL (aQ h)
theorem wan {P : Program} {N : NN} {ops : Array Oper} {R : fJ} {σ : Env} {w : World} {K : NN → Env → World → Prop} {d : Nat} {T : TypeId} {pos : String} {after : Array Edge} {x : Operand} {v : Value} (h : K N ((d, v) :: σ) w) (hx : σ.ev x = some v := by rfl) (hd : Nat.blt d N.1 = true := by rfl) : WL P N ops (kU K R) [⟨some d, .assign x, T, pos, after, none⟩] σ w := cL (aE (aB h)) hx hd
theorem wfl {P : Program} {N : NN} {ops : Array Oper} {R : fJ} {σ : Env} {w : World} {rest : List Oper} {d d2 : Nat} {T T2 : TypeId} {pos pos2 : String} {after after2 : Array Edge} {x y : Operand} {s t U : TypeId} {i off b o : Nat} {cs : Array Value} {fz : Nat × Nat} {v : Value} (hx : σ.ev x = some (.pointer (some ⟨b, o, none⟩))) (hf : dV P s i = some off) (hy : Env.ev ((d, .pointer (some ⟨b, o + off, none⟩)) :: σ) y = some (.pointer (some ⟨b, o + off, none⟩))) (ht : hD P t = some false) (hb : w.heap[b]? = some (.cells cs U fz)) (hv : nth cs.toList (o + off) = some v) (h : WL P N ops R rest ((d2, v) :: (d, .pointer (some ⟨b, o + off, none⟩)) :: σ) w) (hd : Nat.blt d N.1 = true := by rfl) (hd2 : Nat.blt d2 N.1 = true := by rfl) : WL P N ops R (⟨some d, .fieldAddr s x i, T, pos, after, none⟩ :: ⟨some d2, .load t y, T2, pos2, after2, none⟩ :: rest) σ w := gD hd (aA hx hf) (gD hd2 (aF hy ht (aK hb hv)) h)
theorem wel {P : Program} {N : NN} {ops : Array Oper} {R : fJ} {σ : Env} {w : World} {rest : List Oper} {d : Nat} {T : TypeId} {pos : String} {after : Array Edge} {t t' : TypeId} {x y : Operand} {k : IntKind} {m n : Int} (h : WL P N ops R rest ((d, .bool (decide (m = n))) :: σ) w) (hx : σ.ev x = some (.int k m) := by rfl) (hy : σ.ev y = some (.int k n) := by rfl) (hd : Nat.blt d N.1 = true := by rfl) : WL P N ops R (⟨some d, .binOp .eql t x y t', T, pos, after, none⟩ :: rest) σ w := gD hd (qA hx hy) h
end Go.W
namespace Go.Proofs.YtlpdhbmhbjjnhaaGreatDoor
open Go Go.W
def num (v n : Nat) : List Bool := (List.range n).map fun i => v.testBit (n - 1 - i)
def kC (l : List Bool) : Nat := l.foldl (fun a b => 2 * a + b.toNat) 0
@[simp] theorem bW (v n : Nat) : (num v n).length = n := by simp [num]
theorem rU (v n i : Nat) (h : i < n) : (num v n)[i]? = some (v.testBit (n - 1 - i)) := by simp [num, h]
theorem KC (v n : Nat) : num v (n + 1) = num (v / 2) n ++ [v.testBit 0] := by
  apply List.ext_getElem?
  intro i
  by_cases h : i < n
  · rw [rU _ _ _ (by omega), List.getElem?_append_left (by simpa using h), rU _ _ _ h]
    rw [show n + 1 - 1 - i = (n - 1 - i) + 1 by omega, Nat.testBit_succ]
  · by_cases h2 : i = n
    · subst h2
      rw [rU _ _ _ (by omega), List.getElem?_append_right (by simp)]
      simp
    · rw [List.getElem?_eq_none (by simp; omega), List.getElem?_eq_none (by simp; omega)]
theorem nP (l : List Bool) (b : Bool) : kC (l ++ [b]) = 2 * kC l + b.toNat := by simp [kC]
theorem uY : ∀ (n v : Nat), v < 2 ^ n → kC (num v n) = v
  | 0, v, h => by simp at h; subst h; rfl
  | n + 1, v, h => by
    rw [KC, nP, uY n (v / 2) (by rw [Nat.pow_succ] at h; omega)]
    have : (v.testBit 0).toNat = v % 2 := by
      rw [Nat.testBit_zero]; rcases Nat.mod_two_eq_zero_or_one v with h | h <;> simp [h]
    omega
theorem zJ (l : List Bool) : kC l < 2 ^ l.length := by
  suffices ∀ (n : Nat) (l : List Bool), l.length = n → kC l < 2 ^ n from this _ l rfl
  intro n
  induction n with
  | zero => intro l h; have := List.eq_nil_of_length_eq_zero h; subst this; decide
  | succ n ih =>
    intro l h
    have hne : l ≠ [] := by intro h2; subst h2; simp at h
    obtain ⟨l', b, rfl⟩ : ∃ l' b, l = l' ++ [b] := ⟨l.dropLast, l.getLast hne, (List.dropLast_concat_getLast hne).symm⟩
    have := ih l' (by simpa using h)
    rw [nP, Nat.pow_succ]
    cases b <;> simp <;> omega
theorem tZ (v n k : Nat) (h : k < n) : (num v n).take (k + 1) = (num v n).take k ++ [v.testBit (n - 1 - k)] := by
  rw [List.take_add_one, rU _ _ _ h]; rfl
def iY (bs : List Nat) (i : Nat) : Bool := (bs.getD (i / 8) 0).testBit (7 - i % 8)
structure PacksN (bs : List Nat) (l : List Bool) (n : Nat) : Prop where
  len : bs.length = n
  lt : ∀ b, b ∈ bs → b < 256
  bit : ∀ i, i < 8 * n → iY bs i = l.getD i false
abbrev Packs (bs : List Nat) (l : List Bool) : Prop := PacksN bs l ((l.length + 7) / 8)
theorem PacksN.uniq {a b : List Nat} {l : List Bool} {n : Nat} (ha : PacksN a l n) (hb : PacksN b l n) : a = b := by
  apply List.ext_getElem (by rw [ha.len, hb.len])
  intro k h1 h2
  have hk : k < n := by rw [← ha.len]; exact h1
  apply Nat.eq_of_testBit_eq
  intro j
  by_cases hj : j < 8
  · have e1 := ha.bit (8 * k + (7 - j)) (by omega)
    have e2 := hb.bit (8 * k + (7 - j)) (by omega)
    rw [← e2] at e1
    simp only [iY, show (8 * k + (7 - j)) / 8 = k by omega, show 7 - (8 * k + (7 - j)) % 8 = j by omega] at e1
    simpa [List.getD_eq_getElem?_getD, h1, h2] using e1
  · have f1 := ha.lt _ (List.getElem_mem h1)
    have f2 := hb.lt _ (List.getElem_mem h2)
    have hp : (256 : Nat) ≤ 2 ^ j := by have := Nat.pow_le_pow_right (n := 2) (by omega) (show 8 ≤ j by omega); simpa using this
    rw [Nat.testBit_lt_two_pow (by omega), Nat.testBit_lt_two_pow (by omega)]
theorem PacksN.nil (n : Nat) : PacksN (List.replicate n 0) [] n := by
  refine ⟨by simp, fun b hb => by simp at hb; omega, fun i hi => ?_⟩
  simp [iY, List.getD_eq_getElem?_getD, show i / 8 < n by omega]
theorem PacksN.grow {bs : List Nat} {l : List Bool} {n : Nat} (h : PacksN bs l n) (hl : l.length ≤ 8 * n) : PacksN (bs ++ [0]) l (n + 1) := by
  refine ⟨by simp [h.len], fun b hb => ?_, fun i hi => ?_⟩
  · rcases List.mem_append.1 hb with hb | hb
    · exact h.lt b hb
    · simp at hb; omega
  · by_cases hin : i < 8 * n
    · rw [← h.bit i hin]
      simp only [iY, List.getD_eq_getElem?_getD]
      rw [List.getElem?_append_left (by rw [h.len]; omega)]
    · have : i / 8 = n := by omega
      rw [List.getD_eq_getElem?_getD, List.getElem?_eq_none (by omega)]
      simp [iY, List.getD_eq_getElem?_getD, this, ← h.len]
theorem rL (b : Bool) (s j : Nat) : (b.toNat * 2 ^ s).testBit j = (b && decide (j = s)) := by
  cases b
  · simp
  · simp [Nat.testBit_two_pow, eq_comm]
theorem PacksN.snoc {bs : List Nat} {l : List Bool} {n : Nat} (h : PacksN bs l n) (hl : l.length < 8 * n) (b : Bool) {x y : Nat} (hx : bs[l.length / 8]? = some x) (hy : y = x ||| (b.toNat * 2 ^ (7 - l.length % 8))) : PacksN (bs.set (l.length / 8) y) (l ++ [b]) n := by
  have hk : l.length / 8 < bs.length := by rw [h.len]; omega
  have hxm : x < 256 := h.lt x (List.mem_of_getElem? hx)
  have hpow : b.toNat * 2 ^ (7 - l.length % 8) < 2 ^ 8 := by
    have : (2 : Nat) ^ (7 - l.length % 8) ≤ 2 ^ 7 := Nat.pow_le_pow_right (by omega) (by omega)
    cases b <;> simp <;> omega
  refine ⟨by simp [h.len], fun c hc => ?_, fun i hi => ?_⟩
  · rcases List.mem_or_eq_of_mem_set hc with hc | rfl
    · exact h.lt c hc
    · rw [hy]
      exact Nat.or_lt_two_pow (n := 8) hxm hpow
  · simp only [iY, List.getD_eq_getElem?_getD]
    by_cases hik : i / 8 = l.length / 8
    · have hbi := h.bit i hi
      simp only [iY, List.getD_eq_getElem?_getD, hik, hx, Option.getD_some] at hbi
      rw [hik, List.getElem?_set_self hk, Option.getD_some, hy, Nat.testBit_or, hbi, rL]
      by_cases hil : i = l.length
      · subst hil; simp
      · rw [show decide (7 - i % 8 = 7 - l.length % 8) = false from decide_eq_false (by omega)]
        by_cases h3 : i < l.length
        · rw [List.getElem?_append_left h3]; simp
        · rw [List.getElem?_eq_none (by omega), List.getElem?_eq_none (by simp; omega)]; simp
    · rw [List.getElem?_set_ne (by omega)]
      have hbi := h.bit i hi
      simp only [iY, List.getD_eq_getElem?_getD] at hbi
      rw [hbi]
      by_cases h3 : i < l.length
      · rw [List.getElem?_append_left h3]
      · have : i ≠ l.length := by intro h4; subst h4; exact hik rfl
        rw [List.getElem?_eq_none (by omega), List.getElem?_eq_none (by simp; omega)]
def unpk (bs : List Nat) : List Bool := (List.range (8 * bs.length)).map (iY bs)
@[simp] theorem unpk_length (bs : List Nat) : (unpk bs).length = 8 * bs.length := by simp [unpk]
theorem zH (bs : List Nat) (i : Nat) (h : i < 8 * bs.length) : (unpk bs)[i]? = some (iY bs i) := by simp [unpk, h]
theorem PacksN.unpk {bs : List Nat} {l : List Bool} {n : Nat} (h : PacksN bs l n) (hl : l.length ≤ 8 * n) : unpk bs = l ++ List.replicate (8 * n - l.length) false := by
  apply List.ext_getElem?
  intro i
  by_cases hi : i < 8 * n
  · rw [zH _ _ (by rw [h.len]; exact hi), h.bit i hi]
    by_cases h2 : i < l.length
    · rw [List.getElem?_append_left h2]; simp [List.getD_eq_getElem?_getD, h2]
    · rw [List.getElem?_append_right (by omega), List.getD_eq_getElem?_getD, List.getElem?_eq_none (by omega)]
      simp [show i - l.length < 8 * n - l.length by omega]
  · rw [List.getElem?_eq_none (by simp [h.len]; omega), List.getElem?_eq_none (by simp; omega)]
theorem Packs.unpk {bs : List Nat} {l : List Bool} (h : Packs bs l) : Proofs.YtlpdhbmhbjjnhaaGreatDoor.unpk bs = l ++ List.replicate (8 * ((l.length + 7) / 8) - l.length) false := PacksN.unpk h (by omega)
structure Smp where
  t : Int
  v : Nat
  st : Bool
def nanB (v : Nat) : Bool := decide (18437736874454810624 < v * 2 % 18446744073709551616)
def cb (v : Nat) : Nat := if nanB v then 9221120237041090561 else v
theorem BI (v : Nat) : cb (cb v) = cb v := by
  unfold cb
  split
  · rfl
  · rfl
theorem vV {v : Nat} (h : v < 18446744073709551616) : cb v < 18446744073709551616 := by unfold cb; split <;> omega
def lz (x : Nat) : Nat := 64 - Lib.bitLen x
def tz (x : Nat) : Nat := Lib.ctz 64 x
def eB (e : Int) : List Bool :=
  if e = 0 then num 0 1
  else if -63 ≤ e ∧ e ≤ 64 then num 2 2 ++ num (e + 63).toNat 7
  else if -255 ≤ e ∧ e ≤ 256 then num 6 3 ++ num (e + 255).toNat 9
  else if -2047 ≤ e ∧ e ≤ 2048 then num 14 4 ++ num (e + 2047).toNat 12
  else num 15 4 ++ num (u64 e) 64
structure Frm where
  is : Bool
  l : Nat
  r : Nat
def gX (x : Nat) (f : Frm) : List Bool × Frm :=
  if x = 0 then (num 0 1, f)
  else if f.is = true ∧ f.l ≤ lz x ∧ f.r ≤ tz x then (num 2 2 ++ num (x / 2 ^ f.r) (64 - f.l - f.r), f)
  else (num 6 3 ++ num (lz x) 6 ++ num (63 - lz x - tz x) 6 ++ num (x / 2 ^ tz x) (64 - lz x - tz x), ⟨true, lz x, tz x⟩)
structure Stt where
  n : Nat
  t : Int
  d : Int
  b : Nat
  f : Frm
def Stt.zero : Stt := ⟨0, 0, 0, 0, ⟨false, 0, 0⟩⟩
def fS (z : Stt) (s : Smp) : List Bool := if z.n = 0 then num (u64 s.t) 64 else eB (i64 (s.t - z.t - z.d))
def iU (z : Stt) (s : Smp) : Stt := { z with n := z.n + 1, t := s.t, d := if z.n = 0 then 0 else i64 (s.t - z.t) }
def step (z : Stt) (s : Smp) : List Bool × Stt :=
  if s.st then (fS z s ++ num 7 3, iU z s)
  else (fS z s ++ (gX (cb s.v ^^^ z.b) z.f).1, { iU z s with b := cb s.v, f := (gX (cb s.v ^^^ z.b) z.f).2 })
def body : Stt → List Smp → List Bool
  | _, [] => []
  | z, s :: r => (step z s).1 ++ body (step z s).2 r
def after : Stt → List Smp → Stt
  | z, [] => z
  | z, s :: r => after (step z s).2 r
def iW (s : List Smp) : List Bool := num s.length 17 ++ body Stt.zero s
theorem rD (z : Stt) (a b : List Smp) : body z (a ++ b) = body z a ++ body (after z a) b := by
  induction a generalizing z with
  | nil => rfl
  | cons s a ih => simp [body, after, ih]
theorem xA (z : Stt) (a b : List Smp) : after z (a ++ b) = after (after z a) b := by
  induction a generalizing z with
  | nil => rfl
  | cons s a ih => simp [after, ih]
theorem after_n (z : Stt) (a : List Smp) : (after z a).n = z.n + a.length := by
  induction a generalizing z with
  | nil => rfl
  | cons s a ih =>
    simp only [after, ih, List.length_cons]
    have : (step z s).2.n = z.n + 1 := by unfold step; split <;> rfl
    omega
theorem IJ : ∀ (k x : Nat), 2 ^ k ≤ x → x < 2 ^ (k + 1) → k < 64 → Lib.bitLen x = k + 1 := by
  intro k x h1 h2 hk
  have h64 : x < 2 ^ 64 := Nat.lt_of_lt_of_le h2 (Nat.pow_le_pow_right (by omega) (by omega))
  rw [Lib.bitLen_shift k x h1 h64]
  have : x / 2 ^ k = 1 := by
    apply Nat.div_eq_of_lt_le
    · omega
    · rw [Nat.pow_succ] at h2; omega
  rw [this]; rfl
theorem FF {x : Nat} (h0 : x ≠ 0) (h : x < 18446744073709551616) : lz x ≤ 63 ∧ 2 ^ (63 - lz x) ≤ x ∧ x < 2 ^ (64 - lz x) := by
  have hl := Nat.log2_self_le h0
  have hu : x < 2 ^ (Nat.log2 x + 1) := Nat.lt_log2_self
  have h64 : Nat.log2 x < 64 := (Nat.log2_lt h0).2 h
  have hb := IJ _ x hl hu h64
  unfold lz
  rw [hb]
  refine ⟨by omega, ?_, ?_⟩
  · rw [show 63 - (64 - (Nat.log2 x + 1)) = Nat.log2 x by omega]; exact hl
  · rw [show 64 - (64 - (Nat.log2 x + 1)) = Nat.log2 x + 1 by omega]; exact hu
theorem ER {x : Nat} (h0 : x ≠ 0) (h : x < 18446744073709551616) : tz x ≤ 63 ∧ ∃ m, x = 2 ^ tz x * (2 * m + 1) := by
  obtain ⟨m, hm, hl⟩ := Lib.ctzFrom_spec 64 x (by omega) h
  simp only [tz, Lib.ctz, if_neg h0]
  exact ⟨by omega, m, hm⟩
theorem KI {x : Nat} (h0 : x ≠ 0) (h : x < 18446744073709551616) : lz x + tz x ≤ 63 := by
  obtain ⟨h1, h2, h3⟩ := FF h0 h
  obtain ⟨h4, m, hm⟩ := ER h0 h
  have : 2 ^ tz x ≤ x := Nat.le_of_dvd (by omega) ⟨_, hm⟩
  have h5 : tz x < 64 - lz x := (Nat.pow_lt_pow_iff_right (a := 2) (by omega)).1 (Nat.lt_of_le_of_lt this h3)
  omega
theorem sF {x r : Nat} (h0 : x ≠ 0) (h : x < 18446744073709551616) (hr : r ≤ tz x) : x / 2 ^ r * 2 ^ r = x := by
  obtain ⟨_, m, hm⟩ := ER h0 h
  have : 2 ^ r ∣ x := by
    rw [hm]
    exact Nat.dvd_trans (Nat.pow_dvd_pow 2 hr) ⟨_, rfl⟩
  exact Nat.div_mul_cancel this
theorem zO {x l r : Nat} (h0 : x ≠ 0) (h : x < 18446744073709551616) (hl : l ≤ lz x) (hlr : l + r ≤ 64) : x / 2 ^ r < 2 ^ (64 - l - r) := by
  obtain ⟨h1, h2, h3⟩ := FF h0 h
  rw [Nat.div_lt_iff_lt_mul (Nat.two_pow_pos r), ← Nat.pow_add]
  exact Nat.lt_of_lt_of_le h3 (Nat.pow_le_pow_right (by omega) (by omega))
end Go.Proofs.YtlpdhbmhbjjnhaaGreatDoor
namespace Go.Proofs.YtlpdhbmhbjjnhaaGreatDoor
open Go.W
attribute [local irreducible] Decidable.decide
theorem hU : hD Tryz.prog 83 = some false := by kernel_rfl
theorem bF : hD Tryz.prog 3 = some false := by kernel_rfl
theorem qK : hD Tryz.prog 5 = some false := by kernel_rfl
theorem uU : oU Tryz.prog 83 83 = some (5, 1, 1) := by kernel_rfl
theorem gZ : dV Tryz.prog 112 0 = some 0 := by kernel_rfl
theorem iT : dV Tryz.prog 112 1 = some 1 := by kernel_rfl
theorem bK : dC Tryz.prog 55 := ⟨_, Tryz.func55, by kernel_rfl, by kernel_rfl⟩
theorem BO : eS Tryz.prog 83 = some 1 := by kernel_rfl
theorem eH : eS Tryz.prog 3 = some 1 := by kernel_rfl
theorem EG : eS Tryz.prog 5 = some 1 := by kernel_rfl
theorem xB : iF Tryz.prog 83 = some (5, 1) := by kernel_rfl
theorem mM : jE Tryz.prog 83 = some 1 := by kernel_rfl
abbrev bv (n : Nat) : Value := .int .u8 n
structure Wr (w : World) (bw : Nat) (U : TypeId) (rest : List Value) (l : List Bool) (a : Option Addr) (m c : Nat) (bs : List Nat) (ob : Option Nat) : Prop where
  blk : w.heap[bw]? = some (.cells (.slice a m c :: .int .i64 ((l.length % 8 : Nat) : Int) :: rest).toArray U (0, 0))
  own : OwnS w 5 1 a m c (bs.map bv) ob
  pk : Packs bs l
  ap : Apart (some bw) ob
theorem wM {w : World} {a : Option Addr} {m c : Nat} {bs : List Nat} {ob : Option Nat} (h : OwnS w 5 1 a m c (bs.map bv) ob) : bs.length = m := by have := h.1; simpa using this
theorem JW {w : World} {a : Option Addr} {m c : Nat} {bs : List Nat} {ob : Option Nat} {g : Nat} (h : OwnS w 5 1 a m c (bs.map bv) ob) (ha : a = some ⟨g, 0, none⟩) {k : Nat} (hk : k < bs.length) : w.cell? ⟨g, 0 + k * 1, none⟩ = some (bv (bs.getD k 0)) := by
  have hm := wM h
  obtain ⟨g', _, ha', hc⟩ := h.cells (by omega)
  rw [ha] at ha'; cases ha'
  have := hc k (bv (bs.getD k 0)) (by simp [List.getD_eq_getElem?_getD, hk])
  simpa using this
theorem FM {bs : List Nat} (h : ∀ b, b ∈ bs → b < 256) {k : Nat} : bs.getD k 0 < 256 := by
  rw [List.getD_eq_getElem?_getD]
  cases hk : bs[k]? with
  | none => simp
  | some x => exact h x (List.mem_of_getElem? hk)
theorem bs2_get {bs : List Nat} {k : Nat} (h : k < bs.length) : bs[k]? = some (bs.getD k 0) := by simp [List.getD_eq_getElem?_getD, h]
theorem JG (bs : List Nat) (k y : Nat) : (bs.map bv).set k (bv y) = (bs.set k y).map bv := by simp [List.map_set]
theorem GB (v k : Nat) : v / 2 ^ k &&& 1 = (v.testBit k).toNat := by
  rw [Nat.and_one_is_mod, Nat.testBit_eq_decide_div_mod_eq]
  rcases Nat.mod_two_eq_zero_or_one (v / 2 ^ k) with h | h <;> simp [h]
theorem oD (b : Bool) : b.toNat ≤ 1 := by cases b <;> simp
theorem JF (b : Bool) (s : Nat) (h : s ≤ 7) : b.toNat * 2 ^ s % 256 = b.toNat * 2 ^ s := by
  have : (2 : Nat) ^ s ≤ 2 ^ 7 := Nat.pow_le_pow_right (by omega) h
  apply Nat.mod_eq_of_lt
  cases b <;> simp <;> omega
theorem cR {w : World} {bw : Nat} {U : TypeId} {rest : List Value} {l : List Bool} {a : Option Addr} {m c : Nat} {bs : List Nat} {ob : Option Nat} (h : Wr w bw U rest l a m c bs ob) (v n : Nat) (hn : n ≤ 64) (hv : v < 18446744073709551616) (hl : l.length ≤ 1099511627776) :
    Calls Tryz.prog 55 #[.pointer (some ⟨bw, 0, none⟩), .int .u64 v, .int .i64 n] w (Ret fun r w' => r = .tuple #[] ∧ ∃ a' m' c' bs' ob', Wr w' bw U rest (l ++ num v n) a' m' c' bs' ob' ∧ Evo (bw :: ob.toList) w w' ∧ (ob' = ob ∨ Ge w ob')) := by
  obtain ⟨c6, c7, c8, c9⟩ := h; refine aU (N := 65) Tryz.func55 rfl rfl rfl ?_; refine csr (aD (aD (wnn (aZ ?_)))); refine cH (α := Nat × Option Addr × Nat × Nat × List Nat × Option Nat) ((0, a, m, c, bs, ob)) (fun x => [(9, .int .i64 (x.1 : Nat))]) [(0, _), (1, _), (2, _), (8, _)] (fun x wr => Evo (bw :: ob.toList) w wr ∧ (x.1 ≤ n ∧ Wr wr bw U rest (l ++ (num v n).take x.1) x.2.1 x.2.2.1 x.2.2.2.1 x.2.2.2.2.1 x.2.2.2.2.2 ∧ (x.2.2.2.2.2 = ob ∨ Ge w x.2.2.2.2.2))) (fun x => n - x.1) ⟨rfl, trivial⟩ ⟨rfl, rfl, rfl, rfl, trivial⟩ ⟨Evo.refl _ _, ⟨Nat.zero_le _, by simpa using (⟨c6, c7, c8, c9⟩ : Wr w bw U rest l a m c bs ob), .inl rfl⟩⟩ ?_; rintro ⟨k, a1, m1, c1, bs1, ob1⟩ wr1 ⟨Y, ⟨hk, hR, hob⟩⟩; show CW _ _ _ _ [(9, .int .i64 (k : Nat)), (0, _), (1, _), (2, _), (8, _)] _
  try dsimp only at hk hR hob
  have a0 := (Evo.refl (bw :: ob.toList) w).step Y (by intro y hy; left; simpa using hy)
  have hlk : (l ++ (num v n).take k).length = l.length + k := by simp; omega
  have D := hR.blk; have M := hR.own
  have hpk : PacksN bs1 (l ++ (num v n).take k) ((l.length + k + 7) / 8) := by have := hR.pk; unfold Packs at this; rwa [hlk] at this
  simp only [hlk] at D; have hml : bs1.length = m1 := wM M
  have hmem1 : ∀ y, y ∈ ob1.toList → y ∈ bw :: ob.toList ∨ w.heap.size ≤ y := by
    rcases hob with h | h
    · subst h; intro y hy; left; simp [hy]
    · exact h.mem
  have hmm : m1 ≤ 1099511627777 := by have := hpk.len; omega
  refine csr (aC (cE rfl rfl) ?_); refine wnn (aL (bP rfl (fun a8 => ?_) (fun a8 => ?_)))
  ·refine aR (aB (aL (aZ (csr (aD (wan (aL (eY (α := Option Addr × Nat × Nat × List Nat × Option Nat) (fun y => []) [(0, _), (1, _), (2, _), (6, _), (8, _), (9, _)] (fun y wr => Evo (bw :: ob1.toList) wr1 wr ∧ (wr.heap[bw]? = some (.cells (.slice y.1 y.2.1 y.2.2.1 :: .int .i64 (((l.length + k) % 8 : Nat) : Int) :: rest).toArray U (0, 0)) ∧ OwnS wr 5 1 y.1 y.2.1 y.2.2.1 (y.2.2.2.1.map bv) y.2.2.2.2 ∧ PacksN y.2.2.2.1 (l ++ (num v n).take k) ((l.length + k) / 8 + 1) ∧ Apart (some bw) y.2.2.2.2 ∧ (y.2.2.2.2 = ob ∨ Ge w y.2.2.2.2))) ⟨rfl, rfl, rfl, rfl, rfl, rfl, trivial⟩ ?_ ?_))))))))
   ·refine csr (aD (aC (aH rfl) (wfl rfl iT rfl bF D rfl (wel ?_)))); refine wnn (bP rfl (fun a9 => ?_) (fun a9 => ?_))
    ·refine aQ (aD (aD (aC (aH rfl) (wfl rfl gZ rfl hU D rfl (cK (vs := [_]) rfl xB rfl rfl rfl rfl fun b4 w5 d0 d4 F => ?_))))); have a3 := a0.then F; refine dB rfl rfl rfl rfl uU (M.evo0 F) (Src.ofOwn d0 ⟨by first | rfl | assumption, trivial⟩) (by omega) fun a2 c2 d5 ob2 b5 G hob25 => ?_; have a4 := hR.ap.app (Lt.blk (F.blk0 D)) hob25
     have b6 := ((Evo.refl (bw :: ob1.toList) wr1).then F).step G (by intro y hy; left; simp [hy])
     have hob2 : ob2 = ob ∨ Ge w ob2 := by
       rcases hob25 with h | ⟨g, h, hg⟩
       · subst h; exact hob
       · subst h; exact .inr (Ge.fresh a3 (fun y hy => by cases hy; exact hg))
     have hmem2 : ∀ y, y ∈ ob2.toList → y ∈ bw :: ob.toList ∨ w.heap.size ≤ y := by
       rcases hob2 with h | h
       · subst h; intro y hy; left; simp [hy]
       · exact h.mem
     refine aC (aH rfl) (aC (aA rfl gZ) ?_); refine bE rfl rfl (by first | rfl | assumption) BO (G.blk (F.blk0 D) hR.ap.nmem) rfl fun d6 b7 H => ?_
     have d1 := (a3.step G (hmem1)).step H (by intro y hy; left; simp at hy; simp [hy])
     have d2 := ((Y.then F).step G (hmem1)).step H (by intro y hy; left; simp at hy; simp [hy])
     have b8 := b6.step H (by intro y hy; left; simp at hy; simp [hy])
     refine aE (aM ?_); refine ⟨(a2, m1 + 1, c2, bs1 ++ [0], ob2), trivial, ⟨rfl, rfl, rfl, rfl, rfl, rfl, trivial⟩, b8, ?_⟩; have hO2' := (b5.evo H a4.symm.own1)
     exact ⟨b7, by rw [List.map_append]; exact hO2', by have := hpk.grow (by omega); rwa [show (l.length + k + 7) / 8 + 1 = (l.length + k) / 8 + 1 by omega] at this, a4, hob2⟩
    refine aR (aM ?_); refine ⟨(a1, m1, c1, bs1, ob1), trivial, ⟨rfl, rfl, rfl, rfl, rfl, rfl, trivial⟩, (Evo.refl (bw :: ob1.toList) wr1), ?_⟩; exact ⟨D, M, by rwa [show (l.length + k + 7) / 8 = (l.length + k) / 8 + 1 by omega] at hpk, hR.ap, hob⟩
   rintro ⟨a2, m2, c2, bs2, ob2⟩ d7 ⟨a5, ⟨a7, O, V, W, hob2⟩⟩; refine aB ?_; show CW _ _ _ _ [(0, _), (1, _), (2, _), (6, _), (8, _), (9, _)] _
   try dsimp only at a7 O V W hob2
   have b9 := a0.step a5 (by intro y hy; rcases List.mem_cons.1 hy with h | h; { left; simp [h] }; { exact hmem1 y h })
   have c0 := Y.step a5 (by intro y hy; rcases List.mem_cons.1 hy with h | h; { left; simp [h] }; { exact hmem1 y h })
   have hml2 : bs2.length = m2 := wM O; have hl2 := V.len
   have hmem3 : ∀ y, y ∈ ob2.toList → y ∈ bw :: ob.toList ∨ w.heap.size ≤ y := by
     rcases hob2 with h | h
     · subst h; intro y hy; left; simp [hy]
     · exact h.mem
   obtain ⟨g2, hg2, ha2, d8⟩ := O.cells (by omega); refine csr (aD (aD ?_)); refine aC (aX rfl rfl (by omega) (by omega)) ?_; refine aD ?_; refine aC (aX rfl rfl (by omega) (by omega)) ?_
   refine aC (lJ (m := v) (n := n - 1 - k) rfl rfl (by omega) (by omega) (by first | exact Nat.le_of_ble_eq_true rfl | (simp only [IntKind.bits]; omega))) ?_
   refine aC (wW (m := v / 2 ^ (n - 1 - k)) (n := 1) rfl rfl (by omega) (by omega) rfl (Nat.lt_of_le_of_lt (Nat.div_le_self _ _) hv) (by decide)) ?_; rw [GB]; have htn := oD (v.testBit (n - 1 - k))
   refine aC (jQ rfl Tryz.underlying95 Tryz.underlying5 (by simp [IntKind.min, IntKind.max, IntKind.signed, IntKind.bits] <;> omega) (by simp [IntKind.min, IntKind.max, IntKind.signed, IntKind.bits] <;> omega)) ?_
   refine wan (aL ?_); refine eG (fun w0 w' => Evo [] w0 w') (by kernel_rfl) (fun A I => ?_); have J := I.blk0 a7; have K := O.evo0 I; refine aet 0 rfl (fun _ hS => aV rfl) (Evo.refl [] A) ?_; refine aet 1 rfl (fun _ hS => aH rfl) (Evo.refl [] A) ?_; refine aet 2 rfl (fun _ hS => aA rfl gZ) (Evo.refl [] A) ?_; refine aet 3 rfl (fun _ hS => aF rfl hU (aK (hS.blk0 J) rfl)) (Evo.refl [] A) ?_; refine aet 4 rfl (fun _ hS => aV rfl) (Evo.refl [] A) ?_; refine aet 5 rfl (fun _ hS => aH rfl) (Evo.refl [] A) ?_; refine aet 6 rfl (fun _ hS => aA rfl gZ) (Evo.refl [] A) ?_; refine aet 7 rfl (fun _ hS => aF rfl hU (aK (hS.blk0 J) rfl)) (Evo.refl [] A) ?_; refine aet 8 rfl (fun _ hS => aP rfl Tryz.underlying83 rfl) (Evo.refl [] A) ?_; refine aet 9 rfl (fun _ hS => aX rfl rfl (by omega) (by omega)) (Evo.refl [] A) ?_
   refine aet 10 rfl (fun _ hS => fK (n := (l.length + k) / 8) (by first | (rw [ha2]; done) | (rw [ha2]; rfl)) rfl (by omega) mM (by omega)) (Evo.refl [] A) ?_
   refine aet 11 rfl (fun _ hS => aF rfl qK (JW (K.evo0 hS) ha2 (by omega))) (Evo.refl [] A) ?_; refine aet 12 rfl (fun _ hS => aV rfl) (Evo.refl [] A) ?_; refine aet 13 rfl (fun _ hS => aV rfl) (Evo.refl [] A) ?_; refine aet 14 rfl (fun _ hS => aH rfl) (Evo.refl [] A) ?_; refine aet 15 rfl (fun _ hS => aA rfl iT) (Evo.refl [] A) ?_; refine aet 16 rfl (fun _ hS => aF rfl bF (aK (hS.blk0 J) rfl)) (Evo.refl [] A) ?_; refine aet 17 rfl (fun _ hS => aX rfl rfl (by omega) (by omega)) (Evo.refl [] A) ?_
   refine aet 18 rfl (fun _ hS => cO (m := (v.testBit (n - 1 - k)).toNat) (n := 7 - (l.length + k) % 8) rfl rfl (by omega) (by omega) (by first | exact Nat.le_of_ble_eq_true rfl | (simp only [IntKind.bits]; omega)) rfl) (Evo.refl [] A) ?_
   refine aet 19 rfl (fun _ hS => LF (m := bs2.getD ((l.length + k) / 8) 0) (n := (v.testBit (n - 1 - k)).toNat * 2 ^ (7 - (l.length + k) % 8) % 2 ^ IntKind.u8.bits) rfl rfl (by rfl) (by rfl) rfl (FM V.lt) (Nat.mod_lt _ (by decide))) (Evo.refl [] A) ?_
   refine aet 20 rfl (fun _ hS => fK (n := (l.length + k) / 8) (by first | (rw [ha2]; done) | (rw [ha2]; rfl)) rfl (by omega) mM (by omega)) (Evo.refl [] A) ?_
   refine aN [21] (by kernel_rfl) rfl ⟨?_, trivial⟩; refine aO rfl ?_
   obtain ⟨g60, cur51, hg52, hx53, hcu54, hcs55, -⟩ := K.at (by omega)
   rw [ha2] at hx53; cases hx53
   refine lD rfl rfl (rfl) EG hcu54 (K.inb hcs55 (k := (l.length + k) / 8) (j := 0) (by omega) (by omega) (by omega)) fun d9 c3 E => ?_; replace E := tA hg52 E; have a6 := E.blk J W.nmem; refine aE (aJ (.inr (by kernel_rfl)) ?_); refine bN (by kernel_rfl) (aB ?_); refine aQ (aD (aD (aC (aH rfl) (wfl rfl iT rfl bF a6 rfl ?_)))); refine aC (aT rfl rfl (by omega) (by omega)) ?_; refine aC (oN (m := (l.length + k) % 8 + 1) (n := 8) rfl rfl (by omega) (by omega) (by omega)) ?_; refine aC (aH rfl) (aC (aA rfl iT) ?_); refine bE rfl rfl (by first | rfl | assumption) eH a6 rfl fun e0 c4 L => ?_
   have d3 := ((b9.then I).step E (hmem3)).step L (by intro y hy; left; simp at hy; simp [hy])
   have c5 := ((c0.then I).step E (hmem3)).step L (by intro y hy; left; simp at hy; simp [hy])
   refine aE (bC (aB (aQ ?_))); refine aC (aT rfl rfl (by omega) (by omega)) ?_; refine aD (aE (aM ?_)); refine ⟨(k + 1, a2, m2, c2, bs2.set ((l.length + k) / 8) (bs2.getD ((l.length + k) / 8) 0 ||| (v.testBit (n - 1 - k)).toNat * 2 ^ (7 - (l.length + k) % 8) % 2 ^ IntKind.u8.bits), ob2), ?_, ⟨rfl, trivial⟩, ⟨rfl, rfl, rfl, rfl, trivial⟩, c5, ?_⟩
   · (try dsimp only); omega
   try dsimp only
   have hW := c4; have hO := ((K.set' hg52 hcu54 c3).evo L W.symm.own1); refine ⟨by omega, ⟨?_, ?_, ?_, W⟩, hob2⟩
   · simp only [List.length_append, List.length_take, bW]; rw [show (l.length + min (k + 1) n) % 8 = ((l.length + k) % 8 + 1) % 8 by omega]; exact hW
   · rw [← JG]; simpa using hO
   · rw [tZ _ _ _ (by omega), ← List.append_assoc, Packs, List.length_append, List.length_singleton, hlk, show (l.length + k + 1 + 7) / 8 = (l.length + k) / 8 + 1 by omega]
     have hx := bs2_get (bs := bs2) (k := (l.length + k) / 8) (by omega)
     have := V.snoc (by rw [hlk]; omega) (v.testBit (n - 1 - k)) (x := bs2.getD ((l.length + k) / 8) 0) (by rw [hlk]; exact hx) rfl
     rw [hlk] at this; rw [show IntKind.u8.bits = 8 from rfl, show (2 : Nat) ^ 8 = 256 from rfl, JF _ _ (by omega)]; exact this
  refine bJ (bD (bD (bI (dS rfl ?_)))); refine ⟨rfl, a1, m1, c1, bs1, ob1, ?_, a0, hob⟩
  have hkn : k = n := by omega
  subst hkn; refine ⟨?_, M, ?_, hR.ap⟩
  · have := D; rw [List.length_append, bW]; exact this
  · have := hR.pk; rwa [List.take_of_length_le (by simp)] at this
theorem cM {w w1 : World} {X : List Nat} {ob ob1 ob2 : Option Nat} (h1 : ob1 = ob ∨ Ge w ob1) (he : Evo X w w1) (h2 : ob2 = ob1 ∨ Ge w1 ob2) : ob2 = ob ∨ Ge w ob2 := by
  rcases h2 with h | h
  · subst h; exact h1
  · exact .inr (Ge.fresh he h)
theorem cP {w : World} {bw : Nat} {ob ob1 : Option Nat} (h : ob1 = ob ∨ Ge w ob1) : ∀ y, y ∈ bw :: ob1.toList → y ∈ bw :: ob.toList ∨ w.heap.size ≤ y := fun y hy => by
  rcases List.mem_cons.1 hy with h1 | h1
  · left; simp [h1]
  · rcases h with h | h
    · subst h; left; simp [h1]
    · exact h.mem y h1
theorem CZ {w : World} {bw : Nat} {U : TypeId} {rest : List Value} {l : List Bool} {a : Option Addr} {m c : Nat} {bs : List Nat} {ob : Option Nat} (hW : Wr w bw U rest l a m c bs ob) (e : Int) (_he : -9223372036854775808 ≤ e ∧ e ≤ 9223372036854775807) (hl : l.length ≤ 1000000000000) :
    Calls Tryz.prog 82 #[.pointer (some ⟨bw, 0, none⟩), .int .i64 e] w (Ret fun r w' => r = .tuple #[] ∧ ∃ a' m' c' bs' ob', Wr w' bw U rest (l ++ eB e) a' m' c' bs' ob' ∧ Evo (bw :: ob.toList) w w' ∧ (ob' = ob ∨ Ge w ob')) := by
  refine aU (N := 57) Tryz.func82 rfl rfl rfl ?_; refine aZ (csr (aD (wel ?_))); refine wan (bP rfl (fun H => ?_) (fun H => ?_))
  ·refine aQ (aD ?_); refine aG (vs := [_, _, _]) bK rfl (cR hW 0 1 (by omega) (by omega) (by omega)) rfl ?_; rintro _ w1 ⟨rfl, a1, m1, c1, bs1, ob1, A, e4, hob1⟩
   have hl1 : (l ++ num 0 1).length = l.length + 1 := by simp
   refine aE (bC (dS rfl ?_)); refine ⟨rfl, a1, m1, c1, bs1, ob1, ?_, ((Evo.refl (bw :: ob.toList) w).step e4 (cP (.inl rfl))), hob1⟩; rw [eB, if_pos H]; exact A
  refine csr (aD (aC (fF rfl rfl) ?_)); refine aD (bQ (t := 18) rfl (fun a8 => ?_) (fun a8 => ?_))
  ·refine aW (aD (aW (aC (eP rfl rfl) ?_))); refine cF (wan (bP rfl (fun a9 => ?_) (fun a9 => ?_)))
   ·refine csr (aD ?_); refine aG (vs := [_, _, _]) bK rfl (cR hW 2 2 (by omega) (by omega) (by omega)) rfl ?_; rintro _ w4 ⟨rfl, a1, m1, c1, bs1, ob1, A, e5, hob1⟩; have a7 := (Evo.refl (bw :: ob.toList) w).step e5 (cP (.inl rfl))
    have hl1 : (l ++ num 2 2).length = l.length + 2 := by simp
    refine wnn (aQ (aD (aD ?_))); refine aC (aT rfl rfl (by omega) (by omega)) ?_; refine aC (cX rfl Tryz.underlying2 Tryz.underlying95) ?_; refine aG (vs := [_, _, _]) bK rfl (cR A (u64 (e + 63)) 7 (by omega) (gE _) (by omega)) rfl ?_; rintro _ w7 ⟨rfl, a2, m2, c2, bs2, ob2, y, e6, hob2⟩; have hob3 := cM hob1 a7 hob2; refine aE (bC (dS rfl ?_)); refine ⟨rfl, a2, m2, c2, bs2, ob2, ?_, (a7.step e6 (cP hob1)), hob3⟩; rw [List.append_assoc] at y
    have hh : eB e = num 2 2 ++ num (u64 (e + 63)) 7 := by
      have h2 : u64 (e + 63) = (e + 63).toNat := by unfold u64; omega
      rw [h2]; unfold eB
      repeat' split
      all_goals first | rfl | omega
    rw [hh]; exact y
   refine csr (aD (aC (fF rfl rfl) ?_)); refine aD (bQ (t := 32) rfl (fun F => ?_) (fun F => ?_))
   ·refine aW (aD (aW (aC (eP rfl rfl) ?_))); refine cF (wan (bP rfl (fun G => ?_) (fun G => ?_)))
    ·refine csr (aD ?_); refine aG (vs := [_, _, _]) bK rfl (cR hW 6 3 (by omega) (by omega) (by omega)) rfl ?_; rintro _ e7 ⟨rfl, a1, m1, c1, bs1, ob1, A, b4, hob1⟩; have I := (Evo.refl (bw :: ob.toList) w).step b4 (cP (.inl rfl))
     have hl1 : (l ++ num 6 3).length = l.length + 3 := by simp
     refine wnn (aQ (aD (aD ?_))); refine aC (aT rfl rfl (by omega) (by omega)) ?_; refine aC (cX rfl Tryz.underlying2 Tryz.underlying95) ?_; refine aG (vs := [_, _, _]) bK rfl (cR A (u64 (e + 255)) 9 (by omega) (gE _) (by omega)) rfl ?_; rintro _ e8 ⟨rfl, a2, m2, c2, bs2, ob2, y, b5, hob2⟩; have hob3 := cM hob1 I hob2; refine aE (bC (dS rfl ?_)); refine ⟨rfl, a2, m2, c2, bs2, ob2, ?_, (I.step b5 (cP hob1)), hob3⟩; rw [List.append_assoc] at y
     have hh : eB e = num 6 3 ++ num (u64 (e + 255)) 9 := by
       have h2 : u64 (e + 255) = (e + 255).toNat := by unfold u64; omega
       rw [h2]; unfold eB
       repeat' split
       all_goals first | rfl | omega
     rw [hh]; exact y
    refine csr (aD (aC (fF rfl rfl) ?_)); refine aD (bQ (t := 46) rfl (fun D => ?_) (fun D => ?_))
    ·refine aW (aD (aW (aC (eP rfl rfl) ?_))); refine cF (wan (bP rfl (fun E => ?_) (fun E => ?_)))
     ·refine csr (aD ?_); refine aG (vs := [_, _, _]) bK rfl (cR hW 14 4 (by omega) (by omega) (by omega)) rfl ?_; rintro _ e9 ⟨rfl, a1, m1, c1, bs1, ob1, A, b6, hob1⟩; have J := (Evo.refl (bw :: ob.toList) w).step b6 (cP (.inl rfl))
      have hl1 : (l ++ num 14 4).length = l.length + 4 := by simp
      refine wnn (aQ (aD (aD ?_))); refine aC (aT rfl rfl (by omega) (by omega)) ?_; refine aC (cX rfl Tryz.underlying2 Tryz.underlying95) ?_; refine aG (vs := [_, _, _]) bK rfl (cR A (u64 (e + 2047)) 12 (by omega) (gE _) (by omega)) rfl ?_; rintro _ f0 ⟨rfl, a2, m2, c2, bs2, ob2, y, b7, hob2⟩; have hob3 := cM hob1 J hob2; refine aE (bC (dS rfl ?_)); refine ⟨rfl, a2, m2, c2, bs2, ob2, ?_, (J.step b7 (cP hob1)), hob3⟩; rw [List.append_assoc] at y
      have hh : eB e = num 14 4 ++ num (u64 (e + 2047)) 12 := by
        have h2 : u64 (e + 2047) = (e + 2047).toNat := by unfold u64; omega
        rw [h2]; unfold eB
        repeat' split
        all_goals first | rfl | omega
      rw [hh]; exact y
     refine csr (aD ?_); refine aG (vs := [_, _, _]) bK rfl (cR hW 15 4 (by omega) (by omega) (by omega)) rfl ?_; rintro _ f1 ⟨rfl, a1, m1, c1, bs1, ob1, A, b8, hob1⟩; have K := (Evo.refl (bw :: ob.toList) w).step b8 (cP (.inl rfl))
     have hl1 : (l ++ num 15 4).length = l.length + 4 := by simp
     refine wnn (aQ (aD (aD (aC (cX rfl Tryz.underlying2 Tryz.underlying95) ?_)))); refine aG (vs := [_, _, _]) bK rfl (cR A (u64 e) 64 (by omega) (gE _) (by omega)) rfl ?_; rintro _ f2 ⟨rfl, a2, m2, c2, bs2, ob2, y, b9, hob2⟩; have hob3 := cM hob1 K hob2; refine aE (bC (dS rfl ?_)); refine ⟨rfl, a2, m2, c2, bs2, ob2, ?_, (K.step b9 (cP hob1)), hob3⟩; rw [List.append_assoc] at y
     have hh : eB e = num 15 4 ++ num (u64 e) 64 := by
       unfold eB
       repeat' split
       all_goals first | rfl | omega
     rw [hh]; exact y
    refine bB (bB (bY (wan (cY rfl ?_)))); refine csr (aD ?_); refine aG (vs := [_, _, _]) bK rfl (cR hW 15 4 (by omega) (by omega) (by omega)) rfl ?_; rintro _ f3 ⟨rfl, a1, m1, c1, bs1, ob1, A, c0, hob1⟩; have L := (Evo.refl (bw :: ob.toList) w).step c0 (cP (.inl rfl))
    have hl1 : (l ++ num 15 4).length = l.length + 4 := by simp
    refine wnn (aQ (aD (aD (aC (cX rfl Tryz.underlying2 Tryz.underlying95) ?_)))); refine aG (vs := [_, _, _]) bK rfl (cR A (u64 e) 64 (by omega) (gE _) (by omega)) rfl ?_; rintro _ f4 ⟨rfl, a2, m2, c2, bs2, ob2, y, c3, hob2⟩; have hob3 := cM hob1 L hob2; refine aE (bC (dS rfl ?_)); refine ⟨rfl, a2, m2, c2, bs2, ob2, ?_, (L.step c3 (cP hob1)), hob3⟩; rw [List.append_assoc] at y
    have hh : eB e = num 15 4 ++ num (u64 e) 64 := by
      unfold eB
      repeat' split
      all_goals first | rfl | omega
    rw [hh]; exact y
   refine bB (bB (bY (wan (cY rfl ?_)))); refine csr (aD (aC (fF rfl rfl) ?_)); refine aD (bQ (t := 46) rfl (fun D => ?_) (fun D => ?_))
   ·refine aW (aD (aW (aC (eP rfl rfl) ?_))); refine cF (wan (bP rfl (fun E => ?_) (fun E => ?_)))
    ·refine csr (aD ?_); refine aG (vs := [_, _, _]) bK rfl (cR hW 14 4 (by omega) (by omega) (by omega)) rfl ?_; rintro _ f5 ⟨rfl, a1, m1, c1, bs1, ob1, A, c4, hob1⟩; have M := (Evo.refl (bw :: ob.toList) w).step c4 (cP (.inl rfl))
     have hl1 : (l ++ num 14 4).length = l.length + 4 := by simp
     refine wnn (aQ (aD (aD ?_))); refine aC (aT rfl rfl (by omega) (by omega)) ?_; refine aC (cX rfl Tryz.underlying2 Tryz.underlying95) ?_; refine aG (vs := [_, _, _]) bK rfl (cR A (u64 (e + 2047)) 12 (by omega) (gE _) (by omega)) rfl ?_; rintro _ f6 ⟨rfl, a2, m2, c2, bs2, ob2, y, c5, hob2⟩; have hob3 := cM hob1 M hob2; refine aE (bC (dS rfl ?_)); refine ⟨rfl, a2, m2, c2, bs2, ob2, ?_, (M.step c5 (cP hob1)), hob3⟩; rw [List.append_assoc] at y
     have hh : eB e = num 14 4 ++ num (u64 (e + 2047)) 12 := by
       have h2 : u64 (e + 2047) = (e + 2047).toNat := by unfold u64; omega
       rw [h2]; unfold eB
       repeat' split
       all_goals first | rfl | omega
     rw [hh]; exact y
    refine csr (aD ?_); refine aG (vs := [_, _, _]) bK rfl (cR hW 15 4 (by omega) (by omega) (by omega)) rfl ?_; rintro _ f7 ⟨rfl, a1, m1, c1, bs1, ob1, A, c6, hob1⟩; have O := (Evo.refl (bw :: ob.toList) w).step c6 (cP (.inl rfl))
    have hl1 : (l ++ num 15 4).length = l.length + 4 := by simp
    refine wnn (aQ (aD (aD (aC (cX rfl Tryz.underlying2 Tryz.underlying95) ?_)))); refine aG (vs := [_, _, _]) bK rfl (cR A (u64 e) 64 (by omega) (gE _) (by omega)) rfl ?_; rintro _ f8 ⟨rfl, a2, m2, c2, bs2, ob2, y, c7, hob2⟩; have hob3 := cM hob1 O hob2; refine aE (bC (dS rfl ?_)); refine ⟨rfl, a2, m2, c2, bs2, ob2, ?_, (O.step c7 (cP hob1)), hob3⟩; rw [List.append_assoc] at y
    have hh : eB e = num 15 4 ++ num (u64 e) 64 := by
      unfold eB
      repeat' split
      all_goals first | rfl | omega
    rw [hh]; exact y
   refine bB (bB (bY (wan (cY rfl ?_)))); refine csr (aD ?_); refine aG (vs := [_, _, _]) bK rfl (cR hW 15 4 (by omega) (by omega) (by omega)) rfl ?_; rintro _ f9 ⟨rfl, a1, m1, c1, bs1, ob1, A, c8, hob1⟩; have V := (Evo.refl (bw :: ob.toList) w).step c8 (cP (.inl rfl))
   have hl1 : (l ++ num 15 4).length = l.length + 4 := by simp
   refine wnn (aQ (aD (aD (aC (cX rfl Tryz.underlying2 Tryz.underlying95) ?_)))); refine aG (vs := [_, _, _]) bK rfl (cR A (u64 e) 64 (by omega) (gE _) (by omega)) rfl ?_; rintro _ g0 ⟨rfl, a2, m2, c2, bs2, ob2, y, c9, hob2⟩; have hob3 := cM hob1 V hob2; refine aE (bC (dS rfl ?_)); refine ⟨rfl, a2, m2, c2, bs2, ob2, ?_, (V.step c9 (cP hob1)), hob3⟩; rw [List.append_assoc] at y
   have hh : eB e = num 15 4 ++ num (u64 e) 64 := by
     unfold eB
     repeat' split
     all_goals first | rfl | omega
   rw [hh]; exact y
  refine bB (bB (bY (wan (cY rfl ?_)))); refine csr (aD (aC (fF rfl rfl) ?_)); refine aD (bQ (t := 32) rfl (fun F => ?_) (fun F => ?_))
  ·refine aW (aD (aW (aC (eP rfl rfl) ?_))); refine cF (wan (bP rfl (fun G => ?_) (fun G => ?_)))
   ·refine csr (aD ?_); refine aG (vs := [_, _, _]) bK rfl (cR hW 6 3 (by omega) (by omega) (by omega)) rfl ?_; rintro _ g1 ⟨rfl, a1, m1, c1, bs1, ob1, A, d0, hob1⟩; have W := (Evo.refl (bw :: ob.toList) w).step d0 (cP (.inl rfl))
    have hl1 : (l ++ num 6 3).length = l.length + 3 := by simp
    refine wnn (aQ (aD (aD ?_))); refine aC (aT rfl rfl (by omega) (by omega)) ?_; refine aC (cX rfl Tryz.underlying2 Tryz.underlying95) ?_; refine aG (vs := [_, _, _]) bK rfl (cR A (u64 (e + 255)) 9 (by omega) (gE _) (by omega)) rfl ?_; rintro _ g2 ⟨rfl, a2, m2, c2, bs2, ob2, y, d1, hob2⟩; have hob3 := cM hob1 W hob2; refine aE (bC (dS rfl ?_)); refine ⟨rfl, a2, m2, c2, bs2, ob2, ?_, (W.step d1 (cP hob1)), hob3⟩; rw [List.append_assoc] at y
    have hh : eB e = num 6 3 ++ num (u64 (e + 255)) 9 := by
      have h2 : u64 (e + 255) = (e + 255).toNat := by unfold u64; omega
      rw [h2]; unfold eB
      repeat' split
      all_goals first | rfl | omega
    rw [hh]; exact y
   refine csr (aD (aC (fF rfl rfl) ?_)); refine aD (bQ (t := 46) rfl (fun D => ?_) (fun D => ?_))
   ·refine aW (aD (aW (aC (eP rfl rfl) ?_))); refine cF (wan (bP rfl (fun E => ?_) (fun E => ?_)))
    ·refine csr (aD ?_); refine aG (vs := [_, _, _]) bK rfl (cR hW 14 4 (by omega) (by omega) (by omega)) rfl ?_; rintro _ g3 ⟨rfl, a1, m1, c1, bs1, ob1, A, d2, hob1⟩; have Y := (Evo.refl (bw :: ob.toList) w).step d2 (cP (.inl rfl))
     have hl1 : (l ++ num 14 4).length = l.length + 4 := by simp
     refine wnn (aQ (aD (aD ?_))); refine aC (aT rfl rfl (by omega) (by omega)) ?_; refine aC (cX rfl Tryz.underlying2 Tryz.underlying95) ?_; refine aG (vs := [_, _, _]) bK rfl (cR A (u64 (e + 2047)) 12 (by omega) (gE _) (by omega)) rfl ?_; rintro _ g4 ⟨rfl, a2, m2, c2, bs2, ob2, y, d3, hob2⟩; have hob3 := cM hob1 Y hob2; refine aE (bC (dS rfl ?_)); refine ⟨rfl, a2, m2, c2, bs2, ob2, ?_, (Y.step d3 (cP hob1)), hob3⟩; rw [List.append_assoc] at y
     have hh : eB e = num 14 4 ++ num (u64 (e + 2047)) 12 := by
       have h2 : u64 (e + 2047) = (e + 2047).toNat := by unfold u64; omega
       rw [h2]; unfold eB
       repeat' split
       all_goals first | rfl | omega
     rw [hh]; exact y
    refine csr (aD ?_); refine aG (vs := [_, _, _]) bK rfl (cR hW 15 4 (by omega) (by omega) (by omega)) rfl ?_; rintro _ g5 ⟨rfl, a1, m1, c1, bs1, ob1, A, d4, hob1⟩; have a0 := (Evo.refl (bw :: ob.toList) w).step d4 (cP (.inl rfl))
    have hl1 : (l ++ num 15 4).length = l.length + 4 := by simp
    refine wnn (aQ (aD (aD (aC (cX rfl Tryz.underlying2 Tryz.underlying95) ?_)))); refine aG (vs := [_, _, _]) bK rfl (cR A (u64 e) 64 (by omega) (gE _) (by omega)) rfl ?_; rintro _ g6 ⟨rfl, a2, m2, c2, bs2, ob2, y, d5, hob2⟩; have hob3 := cM hob1 a0 hob2; refine aE (bC (dS rfl ?_)); refine ⟨rfl, a2, m2, c2, bs2, ob2, ?_, (a0.step d5 (cP hob1)), hob3⟩; rw [List.append_assoc] at y
    have hh : eB e = num 15 4 ++ num (u64 e) 64 := by
      unfold eB
      repeat' split
      all_goals first | rfl | omega
    rw [hh]; exact y
   refine bB (bB (bY (wan (cY rfl ?_)))); refine csr (aD ?_); refine aG (vs := [_, _, _]) bK rfl (cR hW 15 4 (by omega) (by omega) (by omega)) rfl ?_; rintro _ g7 ⟨rfl, a1, m1, c1, bs1, ob1, A, d6, hob1⟩; have a3 := (Evo.refl (bw :: ob.toList) w).step d6 (cP (.inl rfl))
   have hl1 : (l ++ num 15 4).length = l.length + 4 := by simp
   refine wnn (aQ (aD (aD (aC (cX rfl Tryz.underlying2 Tryz.underlying95) ?_)))); refine aG (vs := [_, _, _]) bK rfl (cR A (u64 e) 64 (by omega) (gE _) (by omega)) rfl ?_; rintro _ g8 ⟨rfl, a2, m2, c2, bs2, ob2, y, d7, hob2⟩; have hob3 := cM hob1 a3 hob2; refine aE (bC (dS rfl ?_)); refine ⟨rfl, a2, m2, c2, bs2, ob2, ?_, (a3.step d7 (cP hob1)), hob3⟩; rw [List.append_assoc] at y
   have hh : eB e = num 15 4 ++ num (u64 e) 64 := by
     unfold eB
     repeat' split
     all_goals first | rfl | omega
   rw [hh]; exact y
  refine bB (bB (bY (wan (cY rfl ?_)))); refine csr (aD (aC (fF rfl rfl) ?_)); refine aD (bQ (t := 46) rfl (fun D => ?_) (fun D => ?_))
  ·refine aW (aD (aW (aC (eP rfl rfl) ?_))); refine cF (wan (bP rfl (fun E => ?_) (fun E => ?_)))
   ·refine csr (aD ?_); refine aG (vs := [_, _, _]) bK rfl (cR hW 14 4 (by omega) (by omega) (by omega)) rfl ?_; rintro _ g9 ⟨rfl, a1, m1, c1, bs1, ob1, A, d8, hob1⟩; have a4 := (Evo.refl (bw :: ob.toList) w).step d8 (cP (.inl rfl))
    have hl1 : (l ++ num 14 4).length = l.length + 4 := by simp
    refine wnn (aQ (aD (aD ?_))); refine aC (aT rfl rfl (by omega) (by omega)) ?_; refine aC (cX rfl Tryz.underlying2 Tryz.underlying95) ?_; refine aG (vs := [_, _, _]) bK rfl (cR A (u64 (e + 2047)) 12 (by omega) (gE _) (by omega)) rfl ?_; rintro _ h0 ⟨rfl, a2, m2, c2, bs2, ob2, y, d9, hob2⟩; have hob3 := cM hob1 a4 hob2; refine aE (bC (dS rfl ?_)); refine ⟨rfl, a2, m2, c2, bs2, ob2, ?_, (a4.step d9 (cP hob1)), hob3⟩; rw [List.append_assoc] at y
    have hh : eB e = num 14 4 ++ num (u64 (e + 2047)) 12 := by
      have h2 : u64 (e + 2047) = (e + 2047).toNat := by unfold u64; omega
      rw [h2]; unfold eB
      repeat' split
      all_goals first | rfl | omega
    rw [hh]; exact y
   refine csr (aD ?_); refine aG (vs := [_, _, _]) bK rfl (cR hW 15 4 (by omega) (by omega) (by omega)) rfl ?_; rintro _ h1 ⟨rfl, a1, m1, c1, bs1, ob1, A, e0, hob1⟩; have a5 := (Evo.refl (bw :: ob.toList) w).step e0 (cP (.inl rfl))
   have hl1 : (l ++ num 15 4).length = l.length + 4 := by simp
   refine wnn (aQ (aD (aD (aC (cX rfl Tryz.underlying2 Tryz.underlying95) ?_)))); refine aG (vs := [_, _, _]) bK rfl (cR A (u64 e) 64 (by omega) (gE _) (by omega)) rfl ?_; rintro _ h3 ⟨rfl, a2, m2, c2, bs2, ob2, y, e1, hob2⟩; have hob3 := cM hob1 a5 hob2; refine aE (bC (dS rfl ?_)); refine ⟨rfl, a2, m2, c2, bs2, ob2, ?_, (a5.step e1 (cP hob1)), hob3⟩; rw [List.append_assoc] at y
   have hh : eB e = num 15 4 ++ num (u64 e) 64 := by
     unfold eB
     repeat' split
     all_goals first | rfl | omega
   rw [hh]; exact y
  refine bB (bB (bY (wan (cY rfl ?_)))); refine csr (aD ?_); refine aG (vs := [_, _, _]) bK rfl (cR hW 15 4 (by omega) (by omega) (by omega)) rfl ?_; rintro _ h4 ⟨rfl, a1, m1, c1, bs1, ob1, A, e2, hob1⟩; have a6 := (Evo.refl (bw :: ob.toList) w).step e2 (cP (.inl rfl))
  have hl1 : (l ++ num 15 4).length = l.length + 4 := by simp
  refine wnn (aQ (aD (aD (aC (cX rfl Tryz.underlying2 Tryz.underlying95) ?_)))); refine aG (vs := [_, _, _]) bK rfl (cR A (u64 e) 64 (by omega) (gE _) (by omega)) rfl ?_; rintro _ h5 ⟨rfl, a2, m2, c2, bs2, ob2, y, e3, hob2⟩; have hob3 := cM hob1 a6 hob2; refine aE (bC (dS rfl ?_)); refine ⟨rfl, a2, m2, c2, bs2, ob2, ?_, (a6.step e3 (cP hob1)), hob3⟩; rw [List.append_assoc] at y
  have hh : eB e = num 15 4 ++ num (u64 e) 64 := by
    unfold eB
    repeat' split
    all_goals first | rfl | omega
  rw [hh]; exact y
end Go.Proofs.YtlpdhbmhbjjnhaaGreatDoor
namespace Go.Proofs.YtlpdhbmhbjjnhaaGreatDoor
open Go.Shelf
def qI : Go.Shelf.Ren := ⟨fun | 134 => 84 | 129 => 80 | n => n, fun | 53 => 95 | 3 => 3 | 4 => 4 | 46 => 105 | 5 => 5 | 9 => 9 | n => n, fun | n => n⟩
theorem xF : Go.Proofs.Lays.n134 Tryz.prog qI := {
  mixed := by kernel_rfl
  f129 := Tryz.func80.trans (congrArg some (by kernel_rfl))
  f134 := Tryz.func84.trans (congrArg some (by kernel_rfl))
  t3 := Tryz.underlying3
  a3 := Tryz.isAgg3
  z3 := Tryz.sizeOf3
  v3 := Tryz.zeroValue3
  t4 := Tryz.underlying4
  a4 := Tryz.isAgg4
  z4 := Tryz.sizeOf4
  v4 := Tryz.zeroValue4
  t5 := Tryz.underlying5
  a5 := Tryz.isAgg5
  z5 := Tryz.sizeOf5
  v5 := Tryz.zeroValue5
  t9 := Tryz.underlying9
  a9 := Tryz.isAgg9
  z9 := Tryz.sizeOf9
  v9 := Tryz.zeroValue9
  t46 := Tryz.underlying105
  a46 := Tryz.isAgg105
  z46 := Tryz.sizeOf105
  v46 := Tryz.zeroValue105
  t53 := Tryz.underlying95
  a53 := Tryz.isAgg95
  z53 := Tryz.sizeOf95
  v53 := Tryz.zeroValue95 }
theorem kT (x : Int) (w : World) (h0 : 0 ≤ x) (h1 : x ≤ 18446744073709551615) :
    Calls Tryz.prog 84 #[.int .u64 x] w fun e w' => e = .returned (.int .i64 (64 - (Lib.bitLen x.toNat : Int))) ∧ w' = w := Any.bits_LeadingZeros64 xF x w h0 h1
end Go.Proofs.YtlpdhbmhbjjnhaaGreatDoor
namespace Go.Proofs.YtlpdhbmhbjjnhaaGreatDoor
open Go.W
attribute [local irreducible] Decidable.decide
def nU : Nat := 0
def Tab (w : World) : Prop := ∀ k, k < 64 → w.cell? ⟨nU, k, none⟩ = some (bv (Lib.deBruijn64tab.getD k 0))
theorem Tab.evo {X : List Nat} {w w' : World} (h : Tab w) (he : Evo X w w') (hx : nU ∉ X) : Tab w' := fun k hk => he.cell (h k hk) hx
theorem Tab.lt {w : World} (h : Tab w) : nU < w.heap.size := World.block_lt_of_cell? w _ (h 0 (by omega))
def arrB (P : Program) (t : TypeId) : Option (Nat × Nat) := match P.underlying t with
  | some (.array len e) => (P.info? e).map (fun i => (len, i.size))
  | _ => none
theorem nH {P : Program} {σ : Env} {w : World} {dst : Option Nat} {T : TypeId} {pos : String} {after : Array Edge} {g : Option (Nat × Bool)} {x i : Operand} {t : TypeId} {k : IntKind} {z : Int} {n sz b o len : Nat} (hx : σ.ev x = some (.pointer (some ⟨b, o, none⟩))) (hi : σ.ev i = some (.int k z)) (hz : z = (n : Nat)) (he : arrB P t = some (len, sz)) (hlt : n < len) :
    Ex P σ ⟨dst, .indexAddr t x i, T, pos, after, g⟩ w (.pointer (some ⟨b, o + n * sz, none⟩)) w := fun ρ h => by
  subst hz
  simp only [arrB] at he
  split at he <;> try cases he
  rename_i len' e hu
  obtain ⟨inf, hin, hsz⟩ := Option.map_eq_some_iff.1 he
  simp only [Prod.mk.injEq] at hsz
  obtain ⟨rfl, rfl⟩ := hsz
  have ha : (⟨b, o, none⟩ : Addr).add (n * inf.size) = ⟨b, o + n * inf.size, none⟩ := by unfold Addr.add; split <;> simp_all
  simp [execOp, h x _ hx, h i _ hi, Instr.indexAt, asIntOf, run_underlying hu, Instr.sureAddr, sizeOf, typeInfo, hin, hlt, ha]
theorem CF : arrB Tryz.prog 157 = some (64, 1) := by kernel_rfl
theorem LK (d : Ieee.Datum) : (d.order d != some .eq) = (match d with | .nan .. => true | _ => false) := by
  cases d with
  | nan a b => rfl
  | infinity s => cases s <;> simp [Ieee.Datum.order]
  | number s m i => simp [Ieee.Datum.order]
theorem DI (v : Nat) : (FloatKind.f64.format.order v v != some .eq) = nanB v := by
  show ((FloatKind.f64.format.read v).order (FloatKind.f64.format.read v) != some .eq) = nanB v
  rw [LK]
  have e1 : FloatKind.f64.format.signWeight = 9223372036854775808 := rfl
  have e2 : FloatKind.f64.format.binade = 4503599627370496 := rfl
  have e3 : FloatKind.f64.format.infRung = 9218868437227405312 := rfl
  simp only [Ieee.Format.read, e1, e2, e3]
  unfold nanB
  by_cases h1 : v % 9223372036854775808 < 4503599627370496
  · rw [if_pos h1]; symm; exact decide_eq_false (by omega)
  · rw [if_neg h1]
    by_cases h2 : v % 9223372036854775808 < 9218868437227405312
    · rw [if_pos h2]; symm; exact decide_eq_false (by omega)
    · rw [if_neg h2]
      by_cases h3 : v % 9223372036854775808 = 9218868437227405312
      · rw [if_pos h3]; symm; exact decide_eq_false (by omega)
      · rw [if_neg h3]; symm; exact decide_eq_true (by omega)
theorem lz_call (x : Nat) (w : World) (hx : x < 18446744073709551616) : Calls Tryz.prog 84 #[.int .u64 x] w (Ret fun v w' => v = .int .i64 (lz x) ∧ Evo [] w w') := by
  refine (kT x w (by omega) (by omega)).mono ?_
  rintro e w' ⟨rfl, rfl⟩
  refine ⟨_, rfl, ?_, Evo.refl _ _⟩
  have := Lib.bitLen_le x 64 (by omega) hx
  simp only [Int.toNat_natCast, lz]
  congr 1
  omega
theorem tz_ok {w : World} (ht : Tab w) (x : Nat) (hx : x < 18446744073709551616) (h0 : x ≠ 0) :
    Calls Tryz.prog 85 #[.int .u64 x] w (Ret fun v w' => v = .int .i64 (tz x) ∧ Evo [] w w') := by
  obtain ⟨hlow, hlt⟩ := Lib.lowest_bit 64 x h0 hx; have hd := Lib.deBruijn64_at (tz x) hlt; have hp : 2 ^ tz x < 18446744073709551616 := Nat.pow_lt_pow_right (a := 2) (by omega) hlt
  change tz x < 64 at hlt
  change x &&& (18446744073709551616 - x) = 2 ^ tz x at hlow
  refine aU (N := 14) Tryz.func85 rfl rfl rfl ?_; refine csr (wan (aL (csr (aD (wel ?_))))); refine wnn (bP rfl (fun y => ?_) (fun y => ?_))
  ·omega
  refine aR (aB (csr (aD (aD (aC (ex_neg rfl) ?_)))))
  rw [show IntKind.u64.wrap (-(x : Int)) = ((18446744073709551616 - x : Nat) : Int) by rw [pR]; unfold u64; omega]
  refine aC (wW (m := x) (n := 18446744073709551616 - x) rfl rfl (by omega) (by omega) rfl (by simp only [IntKind.bits]; omega) (by simp only [IntKind.bits]; omega)) ?_
  rw [hlow]; refine aC (ex_mulU rfl rfl) ?_
  rw [show u64 (((2 ^ tz x : Nat) : Int) * 285870213051353865) = 2 ^ tz x * 285870213051353865 % 18446744073709551616 by unfold u64; rw [show (((2 ^ tz x : Nat) : Int) * 285870213051353865) = ((2 ^ tz x * 285870213051353865 : Nat) : Int) from (Int.natCast_mul _ _).symm]; generalize 2 ^ tz x * 285870213051353865 = q; omega]
  refine aC (lJ (m := 2 ^ tz x * 285870213051353865 % 18446744073709551616) (n := 58) rfl rfl (by rfl) (by rfl) (by first | exact Nat.le_of_ble_eq_true rfl | (simp only [IntKind.bits]; omega))) ?_
  refine aC (nH rfl rfl rfl CF hd.1) ?_; have hc := ht _ hd.1
  refine aC (aF rfl qK (by rw [Nat.mul_one, Nat.zero_add]; exact hc)) ?_
  rw [show bv (Lib.deBruijn64tab.getD (2 ^ tz x * 285870213051353865 % 18446744073709551616 / 288230376151711744) 0) = .int .u8 (tz x) by rw [hd.2]]
  refine aC (jQ rfl Tryz.underlying5 Tryz.underlying3 (by simp [IntKind.min, IntKind.max, IntKind.signed, IntKind.bits] <;> omega) (by simp [IntKind.min, IntKind.max, IntKind.signed, IntKind.bits] <;> omega)) ?_
  refine wan (aS (br1 ?_)); exact ⟨rfl, (Evo.refl [] w)⟩
theorem sS {w : World} (v : Nat) (hv : v < 18446744073709551616) :
    Calls Tryz.prog 83 #[.float .f64 v] w (Ret fun r w' => r = .int .u64 (cb v) ∧ Evo [] w w') := by
  refine aU (N := 8) Tryz.func83 rfl rfl rfl ?_; refine csr (wan (aL (csr (aD (aD (aC (oO rfl rfl) ?_)))))); rw [DI]; refine wnn (dX rfl (fun y => ?_) (fun y => ?_))
  ·refine csr (wan (aS (aI (br1 ?_))))
   exact ⟨by rw [cb, if_pos y]; rfl, (Evo.refl [] w)⟩
  refine aR (aB (csr (aD ?_))); refine aC (vS (vs := [_]) (e := Extern.MathFloatBits.float64bits) Tryz.func100 (by kernel_rfl) (by kernel_rfl) (by kernel_rfl) (by kernel_rfl) rfl rfl) ?_; refine wan (aS (br1 ?_)); exact ⟨by rw [cb, if_neg (by simp [y])], (Evo.refl [] w)⟩
theorem sR {w : World} (v : Nat) :
    Calls Tryz.prog 111 #[.int .u64 v] w (Ret fun r w' => r = .float .f64 v ∧ Evo [] w w') := by
  refine aU (N := 5) Tryz.func111 rfl rfl rfl ?_; refine csr (wan (csr (aD ?_))); refine aC (vS (vs := [_]) (e := Extern.MathFloatBits.float64frombits) Tryz.func124 (by kernel_rfl) (by kernel_rfl) (by kernel_rfl) (by kernel_rfl) rfl rfl) ?_; refine wan (aS (br1 ?_)); exact ⟨rfl, (Evo.refl [] w)⟩
theorem lB : hD Tryz.prog 4 = some false := by kernel_rfl
abbrev bb (b : Bool) : Value := bv b.toNat
theorem jT {w : World} {o ob ob1 : Option Nat} (h : Apart o ob) (hl : Lt w o) (hob : ob1 = ob ∨ Ge w ob1) : Apart o ob1 := by
  rcases hob with h1 | h1
  · subst h1; exact h
  · exact Apart.fresh hl h1
theorem KY {X : List Nat} {a w : World} {ob ob1 : Option Nat} (h : Ge a ob) (he : Evo X a w) (hob : ob1 = ob ∨ Ge w ob1) : Ge a ob1 := by
  rcases hob with h1 | h1
  · subst h1; exact h
  · exact Ge.fresh he h1
abbrev fv (f : Frm) : Value := .agg #[.bool f.is, .int .i64 f.l, .int .i64 f.r]
end Go.Proofs.YtlpdhbmhbjjnhaaGreatDoor
namespace Go.Proofs.YtlpdhbmhbjjnhaaGreatDoor
open Go Go.W
structure Smp.Ok (s : Smp) : Prop where
  t : -9223372036854775808 ≤ s.t ∧ s.t ≤ 9223372036854775807
  v : s.v < 18446744073709551616
structure Stt.Ok (z : Stt) : Prop where
  b : z.b < 18446744073709551616
  f : z.f.l + z.f.r ≤ 64
  d : -9223372036854775808 ≤ z.d ∧ z.d ≤ 9223372036854775807
  t : -9223372036854775808 ≤ z.t ∧ z.t ≤ 9223372036854775807
theorem Stt.zero_ok : Stt.zero.Ok := ⟨by decide, by decide, by decide, by decide⟩
theorem cW {a b : Nat} (ha : a < 18446744073709551616) (hb : b < 18446744073709551616) : a ^^^ b < 18446744073709551616 := Nat.xor_lt_two_pow (n := 64) ha hb
theorem GK {x : Nat} (hx : x < 18446744073709551616) {f : Frm} (h : f.l + f.r ≤ 64) : (gX x f).2.l + (gX x f).2.r ≤ 64 := by
  unfold gX
  split
  · exact h
  · rename_i h0
    split
    · exact h
    · have := KI h0 hx
      simp only; omega
theorem GJ {x : Nat} {f : Frm} : 1 ≤ (gX x f).1.length ∧ (gX x f).1.length ≤ 79 := by
  unfold gX
  split
  · simp
  · split <;> simp <;> omega
theorem GM (e : Int) : 1 ≤ (eB e).length ∧ (eB e).length ≤ 68 := by
  unfold eB
  repeat' split
  all_goals simp
theorem uZ (z : Stt) (s : Smp) : 1 ≤ (fS z s).length ∧ (fS z s).length ≤ 68 := by
  unfold fS
  split
  · simp
  · exact GM _
theorem JC (z : Stt) (s : Smp) : 2 ≤ (step z s).1.length ∧ (step z s).1.length ≤ 160 := by
  have h1 := uZ z s
  have h2 := GJ (x := cb s.v ^^^ z.b) (f := z.f)
  unfold step
  split <;> simp only [List.length_append, bW] <;> omega
theorem step_ok {z : Stt} {s : Smp} (hz : z.Ok) (hs : s.Ok) : (step z s).2.Ok := by
  have hd : (-9223372036854775808 ≤ (if z.n = 0 then 0 else i64 (s.t - z.t)) ∧ (if z.n = 0 then 0 else i64 (s.t - z.t)) ≤ 9223372036854775807) := by
    split
    · omega
    · exact iM _
  unfold step
  split
  · exact ⟨hz.b, hz.f, hd, hs.t⟩
  · exact ⟨vV hs.v, GK (cW (vV hs.v) hz.b) hz.f, hd, hs.t⟩
theorem BN : ∀ {l : List Smp} {z : Stt}, z.Ok → (∀ s, s ∈ l → s.Ok) → (after z l).Ok
  | [], _, hz, _ => hz
  | s :: l, z, hz, h => BN (l := l) (step_ok hz (h s (by simp))) (fun x hx => h x (List.mem_cons_of_mem _ hx))
theorem tM : ∀ (l : List Smp) (z : Stt), 2 * l.length ≤ (body z l).length ∧ (body z l).length ≤ 160 * l.length
  | [], _ => by simp [body]
  | s :: l, z => by
    have h1 := tM l (step z s).2
    have h2 := JC z s
    simp only [body, List.length_append, List.length_cons]
    omega
theorem KZ (l : List Smp) : (iW l).length ≤ 17 + 160 * l.length := by
  have := tM l Stt.zero
  simp only [iW, List.length_append, bW]; omega
theorem step_t (z : Stt) (s : Smp) : (step z s).2.t = s.t := by unfold step; split <;> rfl
theorem rP {z : Stt} {s : Smp} (h : s.st = true) : step z s = (fS z s ++ num 7 3, iU z s) := by unfold step; rw [if_pos h]
theorem lV {z : Stt} {s : Smp} (h : s.st = false) : step z s = (fS z s ++ (gX (cb s.v ^^^ z.b) z.f).1, { iU z s with b := cb s.v, f := (gX (cb s.v ^^^ z.b) z.f).2 }) := by unfold step; rw [if_neg (by simp [h])]
theorem mO {α : Type} {l : List α} {k : Nat} (h : k < l.length) : l.take (k + 1) = l.take k ++ [l[k]] := List.take_succ_eq_append_getElem h
def kV (l : List Smp) (k : Nat) : Stt := after Stt.zero (l.take k)
def gL (l : List Smp) (k : Nat) : List Bool := num l.length 17 ++ body Stt.zero (l.take k)
theorem GN (l : List Smp) : kV l 0 = Stt.zero := rfl
theorem BK (l : List Smp) : gL l 0 = num l.length 17 := by simp [gL, body]
theorem pS {l : List Smp} {k : Nat} (h : k < l.length) : kV l (k + 1) = (step (kV l k) l[k]).2 := by
  simp only [kV, mO h, xA]; rfl
theorem rE {l : List Smp} {k : Nat} (h : k < l.length) : gL l (k + 1) = gL l k ++ (step (kV l k) l[k]).1 := by
  simp only [gL, kV, mO h, rD, List.append_assoc]
  simp [body]
theorem EE (l : List Smp) {k : Nat} (h : l.length ≤ k) : gL l k = iW l := by simp only [gL, iW, List.take_of_length_le h]
theorem stAt_n {l : List Smp} {k : Nat} (h : k ≤ l.length) : (kV l k).n = k := by
  simp only [kV, after_n, Stt.zero, List.length_take]; omega
theorem stAt_t {l : List Smp} {k : Nat} (h : k < l.length) : (kV l (k + 1)).t = l[k].t := by rw [pS h, step_t]
theorem ET {l : List Smp} (k : Nat) (h : ∀ s, s ∈ l → s.Ok) : (kV l k).Ok := BN Stt.zero_ok (fun s hs => h s (List.mem_of_mem_take hs))
theorem ED (l : List Smp) (k : Nat) : (gL l k).length ≤ 17 + 160 * l.length := by
  have := tM (l.take k) Stt.zero
  simp only [gL, List.length_append, bW, List.length_take] at *; omega
theorem AQ (x y : Int) : i64 (x + i64 y) = i64 (x + y) := by unfold i64; split <;> split <;> split <;> omega
def lC (l : List Smp) : Prop := ∀ k (h : k + 1 < l.length), (l[k]'(by omega)).t < l[k + 1].t
def RisesTo (l : List Smp) (n : Nat) : Prop := ∀ k (h : k + 1 < l.length), k + 1 < n → (l[k]'(by omega)).t < l[k + 1].t
theorem RisesTo.all {l : List Smp} {n : Nat} (h : RisesTo l n) (hn : l.length ≤ n) : lC l := fun k hk => h k hk (by omega)
theorem RisesTo.succ {l : List Smp} {n : Nat} (h : RisesTo l n) (hn : n < l.length) (h0 : 0 < n) (h1 : (l[n - 1]'(by omega)).t < l[n].t) : RisesTo l (n + 1) := fun k hk hkn => by
  by_cases e : k + 1 < n
  · exact h k hk e
  · obtain rfl : n = k + 1 := by omega
    exact h1
end Go.Proofs.YtlpdhbmhbjjnhaaGreatDoor
namespace Go.Proofs.YtlpdhbmhbjjnhaaGreatDoor
open Go.W
attribute [local irreducible] Decidable.decide
theorem fR : hD Tryz.prog 2 = some false := by kernel_rfl
theorem tV : hD Tryz.prog 48 = some false := by kernel_rfl
theorem eJ : dV Tryz.prog 50 0 = some 0 := by kernel_rfl
theorem lS : dV Tryz.prog 50 1 = some 1 := by kernel_rfl
theorem pN : dV Tryz.prog 50 2 = some 2 := by kernel_rfl
def RSmp : Rel Smp := fun _ _ vs s => vs = [.int .i64 s.t, .float .f64 s.v, .bool s.st] ∧ s.Ok
theorem RSmp.pers : RSmp.Pers := fun _ _ _ _ _ _ h => h
theorem RSmp.fresh : RSmp.Fresh := fun _ _ _ _ _ _ h => h
theorem RSmp.one : ∀ X w vs d, RSmp X w vs d → ∀ u, u ∈ vs → u.oneCell' = true := fun _ _ _ _ h u hu => by
  obtain ⟨rfl, _⟩ := h; simp at hu; rcases hu with rfl | rfl | rfl <;> rfl
theorem wH {X : List Nat} {w : World} {v : Value} {ds : List Smp} (h : RSl 3 RSmp X w v ds) : ∀ s, s ∈ ds → s.Ok := fun s hs => by
  obtain ⟨_, _, _, _, h⟩ := h
  obtain ⟨k, hk, rfl⟩ := List.getElem_of_mem hs
  obtain ⟨_, _, _, _, _, _, _, h5⟩ := h k hk
  exact h5.2
theorem mN : jE Tryz.prog 43 = some 3 := by kernel_rfl
theorem CO {X : List Nat} {w : World} {a : Option Addr} {n c : Nat} {ds : List Smp} (h : RSl 3 RSmp X w (.slice a n c) ds) {k : Nat} (hk : k < ds.length) : n = ds.length ∧ ∃ b o, a = some ⟨b, o, none⟩ ∧ b ∉ X ∧ CellsAt w b (o + k * 3) [.int .i64 ds[k].t, .float .f64 ds[k].v, .bool ds[k].st] := by
  obtain ⟨a', c', hv, _, h⟩ := h
  cases hv
  obtain ⟨b, o, vs, h1, h2, h3, h4, h5, _⟩ := h k hk
  subst h5
  exact ⟨rfl, b, o, h1, h2, h4⟩
def qL (ds : List Smp) (bs : List Nat) (e : Int) : Prop :=
  (100000 < ds.length ∧ bs = [] ∧ e = 1) ∨ (ds.length ≤ 100000 ∧ ¬ lC ds ∧ bs = [] ∧ e = 170) ∨ (ds.length ≤ 100000 ∧ lC ds ∧ Packs bs (iW ds) ∧ e = 0)
theorem FA {X : List Nat} {w : World} {e : TypeId} {a : Option Addr} {m c : Nat} {bs : List Nat} {ob : Option Nat} (h : OwnS w e 1 a m c (bs.map bv) ob) (hb : ∀ b, b ∈ bs → b < 256) (hx : ∀ g, ob = some g → g ∉ X) : RSl 1 RB X w (.slice a m c) bs := by
  have hl : bs.length = m := by have := h.1; simpa using this
  have hf : (bs.map fun b => [bv b]).flatten = bs.map bv := by clear h hb hl; induction bs with | nil => rfl | cons b bs ih => simp [ih]
  exact RSl.ofOwn (rows := bs.map fun b => [bv b]) (by rw [hf]; exact h) ⟨by simp, fun k h1 h2 => by simp; exact ⟨rfl, hb _ (List.getElem_mem h1)⟩⟩ hl hx
theorem bU : hD Tryz.prog 95 = some false := by kernel_rfl
theorem fN : dV Tryz.prog 115 0 = some 0 := by kernel_rfl
theorem gC : dV Tryz.prog 115 1 = some 1 := by kernel_rfl
theorem eM : dV Tryz.prog 115 2 = some 2 := by kernel_rfl
theorem bG : dV Tryz.prog 115 3 = some 3 := by kernel_rfl
theorem gB : dV Tryz.prog 115 4 = some 4 := by kernel_rfl
theorem fM : dV Tryz.prog 115 5 = some 5 := by kernel_rfl
theorem eK : dV Tryz.prog 115 6 = some 6 := by kernel_rfl
theorem BZ : dC Tryz.prog 82 := ⟨_, Tryz.func82, by kernel_rfl, by kernel_rfl⟩
theorem rJ : dC Tryz.prog 83 := ⟨_, Tryz.func83, by kernel_rfl, by kernel_rfl⟩
theorem BY : dC Tryz.prog 84 := ⟨_, Tryz.func84, by kernel_rfl, by kernel_rfl⟩
theorem BX : dC Tryz.prog 85 := ⟨_, Tryz.func85, by kernel_rfl, by kernel_rfl⟩
theorem jU : eS Tryz.prog 2 = some 1 := by kernel_rfl
theorem iK : eS Tryz.prog 4 = some 1 := by kernel_rfl
theorem bM : eS Tryz.prog 95 = some 1 := by kernel_rfl
abbrev zv (z : Stt) : List Value := [.int .i64 z.n, .int .i64 z.t, .int .u64 (u64 z.d), .int .u64 z.b, .bool z.f.is, .int .i64 z.f.l, .int .i64 z.f.r]
theorem nm2 {b bw : Nat} {ob : Option Nat} (h1 : Apart (some b) (some bw)) (h2 : Apart (some b) ob) : b ∉ bw :: ob.toList := fun h => by
  rcases List.mem_cons.1 h with h | h
  · exact h1 b rfl (by rw [h])
  · exact h2.nmem h
theorem IT (x y d : Int) : i64 ((u64 ((u64 ((u64 x : Int) - (u64 y : Int)) : Int) - (u64 d : Int)) : Nat) : Int) = i64 (x - y - d) := by unfold i64 u64; omega
theorem IU (x y : Int) : u64 ((u64 x : Int) - (u64 y : Int)) = u64 (i64 (x - y)) := by unfold i64 u64; split <;> omega
theorem GF {w : World} {bw bz : Nat} {U V : TypeId} {l : List Bool} {a : Option Addr} {m c : Nat} {bs : List Nat} {ob : Option Nat} {z : Stt} {s : Smp} (hW : Wr w bw U [] l a m c bs ob) (p9 : w.heap[bz]? = some (.cells (zv z).toArray V (0, 0))) (hzw : Apart (some bz) (some bw)) (hzo : Apart (some bz) ob) (hz : z.Ok) (hn : z.n ≤ 1000000) (hs : s.Ok) (hl : l.length ≤ 100000000000) (ht : Tab w) (h1 : nU ∉ (bz :: bw :: ob.toList)) :
    Calls Tryz.prog 56 #[.pointer (some ⟨bz, 0, none⟩), .pointer (some ⟨bw, 0, none⟩), .agg #[.int .i64 s.t, .float .f64 s.v, .bool s.st]] w (Ret fun r w' => r = .tuple #[] ∧ ∃ a' m' c' bs' ob', Wr w' bw U [] (l ++ (step z s).1) a' m' c' bs' ob' ∧ w'.heap[bz]? = some (.cells (zv (step z s).2).toArray V (0, 0)) ∧ Evo (bz :: bw :: ob.toList) w w' ∧ (ob' = ob ∨ Ge w ob')) := by
  obtain ⟨n3, n4, q0, q1⟩ := hW; have hzf := hz.f; have hx := cW (vV hs.v) hz.b; refine aU (N := 160) Tryz.func56 rfl rfl rfl ?_; refine csr (dZ rfl rfl fun b1 w2 g4 n5 d6 => ?_); have r5 := Apart.new (Lt.blk n3) n5; have g5 := Apart.new (Lt.blk p9) n5; have q2 := Apart.new (Lt.own n4) n5; have d1 := (Evo.refl (bz :: bw :: ob.toList) w).then d6; have d7 := d6.blk0 p9; refine wnn (aL (eY (α := Option Addr × Nat × Nat × List Nat × Option Nat) (fun y => []) [(0, _), (1, _), (5, _)] (fun y wr => Evo (bz :: bw :: ob.toList) w2 wr ∧ (Wr wr bw U [] (l ++ fS z s) y.1 y.2.1 y.2.2.1 y.2.2.2.1 y.2.2.2.2 ∧ wr.heap[bz]? = some (.cells ([.int .i64 z.n, .int .i64 z.t, .int .u64 (u64 (iU z s).d), .int .u64 z.b, .bool z.f.is, .int .i64 z.f.l, .int .i64 z.f.r] : List Value).toArray V (0, 0)) ∧ Apart (some bz) y.2.2.2.2 ∧ (y.2.2.2.2 = ob ∨ Ge w y.2.2.2.2) ∧ (y.2.2.2.2 = ob ∨ Ge w2 y.2.2.2.2))) ⟨rfl, rfl, rfl, trivial⟩ ?_ ?_))
  ·refine csr (aD (aC (aH rfl) (wfl rfl fN rfl bF d7 rfl (wel ?_)))); refine wnn (bP rfl (fun q3 => ?_) (fun q3 => ?_))
   ·refine csr (aD (wfl rfl eJ rfl fR g4 rfl (aC (cX rfl Tryz.underlying2 Tryz.underlying95) ?_)))
    refine aG (vs := [_, _, _]) bK rfl (cR ⟨(d6.blk0 n3), (n4.evo0 d6), q0, q1⟩ (u64 s.t) 64 (by omega) (gE _) (by first | omega | (simp only [List.length_append, bW]; omega))) rfl ?_
    rintro _ u5 ⟨rfl, a2, m2, c2, bs2, ob2, g6, g0, hb2⟩; have hob2 := cM (.inl rfl) d1 hb2; have hoc2 := cM (.inl rfl) (Evo.refl (bz :: bw :: ob.toList) w2) hb2; have n6 := jT hzo (Lt.blk d7) hb2; have q4 := d1.step g0 (fun y hy => (cP (.inl rfl) y hy).imp (List.mem_cons_of_mem _) id); have q5 := (Evo.refl (bz :: bw :: ob.toList) w2).step g0 (fun y hy => (cP (.inl rfl) y hy).imp (List.mem_cons_of_mem _) id); refine wnn (aQ (aD (aC (aH rfl) (aC (aA rfl eM) ?_)))); refine bE rfl rfl (by first | rfl | assumption) bM (g0.blk d7 (nm2 hzw hzo)) rfl fun u6 n7 d8 => ?_
    have r6 := q4.step d8 (fun y hy => .inl (by simp at hy; simp [hy]))
    have q6 := q5.step d8 (fun y hy => .inl (by simp at hy; simp [hy]))
    try simp only [dH, Nat.reduceAdd] at n7
    refine aE (aM ?_); refine ⟨(a2, m2, c2, bs2, ob2), trivial, ⟨rfl, rfl, rfl, trivial⟩, q6, ?_⟩
    have hz0 : z.n = 0 := by omega
    have e1 : (iU z s).d = 0 := by simp only [iU, if_pos hz0]
    have e2 : fS z s = num (u64 s.t) 64 := by simp only [fS, if_pos hz0]
    rw [e1, e2]; have hZf := n7; exact ⟨⟨(d8.blk g6.blk hzw.symm.nmem1), (g6.own.evo d8 n6.symm.own1), g6.pk, g6.ap⟩, hZf, n6, hob2, hoc2⟩
   refine aL ?_; refine eG (fun w0 w' => Evo [] w0 w') (by kernel_rfl) (fun L M => ?_); have n8 := (Evo.refl (bz :: bw :: ob.toList) w2).then M; have d9 := M.blk0 d7; refine aet 0 rfl (fun _ hS => aA rfl eJ) (Evo.refl [] L) ?_; refine aet 1 rfl (fun _ hS => aF rfl fR (aK (hS.blk0 (M.blk0 g4)) rfl)) (Evo.refl [] L) ?_; refine aet 2 rfl (fun _ hS => cX rfl Tryz.underlying2 Tryz.underlying95) (Evo.refl [] L) ?_; refine aet 3 rfl (fun _ hS => aV rfl) (Evo.refl [] L) ?_; refine aet 4 rfl (fun _ hS => aH rfl) (Evo.refl [] L) ?_; refine aet 5 rfl (fun _ hS => aA rfl gC) (Evo.refl [] L) ?_; refine aet 6 rfl (fun _ hS => aF rfl fR (aK (hS.blk0 d9) rfl)) (Evo.refl [] L) ?_; refine aet 7 rfl (fun _ hS => cX rfl Tryz.underlying2 Tryz.underlying95) (Evo.refl [] L) ?_; refine aet 8 rfl (fun _ hS => FN rfl rfl) (Evo.refl [] L) ?_; refine aet 9 rfl (fun _ hS => fB rfl) (Evo.refl [] L) ?_; refine bN (by kernel_rfl) (aB ?_); refine csr (aD (aD (aD (aC (aH rfl) ?_))))
   refine wfl rfl eM rfl bU d9 rfl (aC (FN rfl rfl) ?_); refine aC (fX rfl Tryz.underlying95 Tryz.underlying2) ?_; rw [IT]
   refine aG (vs := [_, _]) BZ rfl (CZ ⟨(M.blk0 (d6.blk0 n3)), ((n4.evo0 d6).evo0 M), q0, q1⟩ (i64 (s.t - z.t - z.d)) (iM _) (by first | omega | (simp only [List.length_append, bW]; omega))) rfl ?_
   rintro _ u7 ⟨rfl, a3, m3, c3, bs3, ob3, g7, g1, hb3⟩; have hob3 := cM (.inl rfl) (d1.then M) hb3; have hoc3 := cM (.inl rfl) n8 hb3; have n9 := jT hzo (Lt.blk d9) hb3; have q7 := (d1.then M).step g1 (fun y hy => (cP (.inl rfl) y hy).imp (List.mem_cons_of_mem _) id); have q8 := n8.step g1 (fun y hy => (cP (.inl rfl) y hy).imp (List.mem_cons_of_mem _) id); refine wnn (aQ (aD (aD (aC (aH rfl) (aC (aA rfl eM) ?_))))); refine bE rfl rfl (by first | rfl | assumption) bM (g1.blk d9 (nm2 hzw hzo)) rfl fun u8 o0 e0 => ?_
   have r7 := q7.step e0 (fun y hy => .inl (by simp at hy; simp [hy]))
   have q9 := q8.step e0 (fun y hy => .inl (by simp at hy; simp [hy]))
   try simp only [dH, Nat.reduceAdd] at o0
   refine aE (aM ?_); refine ⟨(a3, m3, c3, bs3, ob3), trivial, ⟨rfl, rfl, rfl, trivial⟩, q9, ?_⟩
   have hz0 : ¬ z.n = 0 := by omega
   have e1 : (iU z s).d = i64 (s.t - z.t) := by simp only [iU, if_neg hz0]
   have e2 : fS z s = eB (i64 (s.t - z.t - z.d)) := by simp only [fS, if_neg hz0]
   rw [e1, e2]; have hZf := o0; rw [IU] at hZf; exact ⟨⟨(e0.blk g7.blk hzw.symm.nmem1), (g7.own.evo e0 n9.symm.own1), g7.pk, g7.ap⟩, hZf, n9, hob3, hoc3⟩
  rintro ⟨a1, m1, c1, bs1, ob1⟩ u9 ⟨o1, ⟨F, o2, hzo1, hob1, hoq1⟩⟩; refine aB ?_; show CW _ _ _ _ [(0, _), (1, _), (5, _)] _
  try dsimp only at F o2 hzo1 hob1 hoq1
  have o3 := o1.blk g4 (by intro h; rcases List.mem_cons.1 h with h | h; { exact g5.symm _ rfl (by rw [h]) }; { exact nm2 r5.symm q2.symm h })
  have htl := uZ z s; have hapb := jT q2.symm (Lt.blk g4) hoq1; refine aL ?_; refine eG (fun w0 w' => Evo [bz] w0 w') (by kernel_rfl) (fun J O => ?_); have r0 := (d1.step o1 (fun y hy => .inl hy)).then O; refine aet 0 rfl (fun _ hS => aV rfl) (Evo.refl [bz] J) ?_; refine aet 1 rfl (fun _ hS => aV rfl) (Evo.refl [bz] J) ?_; refine aet 2 rfl (fun _ hS => aV rfl) (Evo.refl [bz] J) ?_; refine aet 3 rfl (fun _ hS => aH rfl) (Evo.refl [bz] J) ?_; refine aet 4 rfl (fun _ hS => aA rfl fN) (Evo.refl [bz] J) ?_; refine aet 7 rfl (fun _ hS => aA rfl eJ) (Evo.refl [bz] J) ?_; refine aet 8 rfl (fun _ hS => aF rfl fR (aK (hS.blk (O.blk0 o3) (g5.symm.nmem1)) rfl)) (Evo.refl [bz] J) ?_; refine aN [5] (by kernel_rfl) rfl ⟨?_, trivial⟩; refine aO rfl ?_; refine aC (aF rfl bF (aK (O.blk0 o2) rfl)) (aE (aJ (.inl (Evo.refl [bz] J)) ?_)); refine aet 6 rfl (fun _ hS => aT rfl rfl (by omega) (by omega)) (Evo.refl [bz] J) ?_; refine aet 9 rfl (fun _ hS => aH rfl) (Evo.refl [bz] J) ?_
  refine aet 10 rfl (fun _ hS => aA rfl fN) (Evo.refl [bz] J) ?_; refine aN [11] (by kernel_rfl) rfl ⟨?_, trivial⟩; refine aO rfl ?_; refine bE rfl rfl (by first | rfl | assumption) eH (O.blk0 o2) rfl fun v0 o4 d2 => ?_
  have r1 := r0.step d2 (fun y hy => .inl (by simp at hy; simp [hy]))
  have e3 := (Evo.refl [bz] J).step d2 (fun y hy => .inl (by simp at hy; simp [hy]))
  try simp only [dH, Nat.reduceAdd] at o4
  refine aE (aJ (.inl e3) ?_); refine aet 12 rfl (fun _ hS => aH rfl) e3 ?_; refine aet 13 rfl (fun _ hS => aA rfl gC) e3 ?_; refine aN [14] (by kernel_rfl) rfl ⟨?_, trivial⟩; refine aO rfl ?_; refine bE rfl rfl (by first | rfl | assumption) jU o4 rfl fun v1 e4 d3 => ?_
  have g2 := r1.step d3 (fun y hy => .inl (by simp at hy; simp [hy]))
  have r2 := e3.step d3 (fun y hy => .inl (by simp at hy; simp [hy]))
  have o5 := d3.blk (d2.blk (O.blk0 o3) g5.symm.nmem1) g5.symm.nmem1; have o6 := d3.blk (d2.blk (O.blk0 F.blk) hzw.symm.nmem1) hzw.symm.nmem1; have o7 := ((F.own.evo0 O).evo d2 hzo1.symm.own1).evo d3 hzo1.symm.own1
  try simp only [dH, Nat.reduceAdd] at e4
  refine aE (aJ (.inl r2) ?_); refine bN (by kernel_rfl) (aB ?_); refine aL (csr (wfl rfl pN rfl lB o5 rfl (wnn (dX rfl (fun W => ?_) (fun W => ?_)))))
  ·refine csr (aD ?_)
   refine aG (vs := [_, _, _]) bK rfl (cR ⟨o6, o7, F.pk, F.ap⟩ 7 3 (by omega) (by omega) (by first | omega | (simp only [List.length_append, bW]; omega))) rfl ?_
   rintro _ v2 ⟨rfl, a4, m4, c4, bs4, ob4, g8, o8, hb4⟩; have hob4 := cM hob1 g2 hb4; refine wnn (aS (aI (qD rfl ?_))); rw [rP W]; refine ⟨rfl, a4, m4, c4, bs4, ob4, ?_, (o8.blk e4 (nm2 hzw hzo1)), (g2.step o8 (fun y hy => (cP hob1 y hy).imp (List.mem_cons_of_mem _) id)), hob4⟩
   rw [← List.append_assoc]; exact ⟨g8.blk, g8.own, g8.pk, g8.ap⟩
  refine aR (aB (aL ?_)); refine eG (fun w0 w' => Evo [] w0 w') (by kernel_rfl) (fun d4 b4 => ?_); refine aet 0 rfl (fun _ hS => aA rfl lS) (Evo.refl [] d4) ?_; refine aet 1 rfl (fun _ hS => aF rfl tV (aK (hS.blk0 (b4.blk0 o5)) rfl)) (Evo.refl [] d4) ?_; refine aet 3 rfl (fun _ hS => aV rfl) (Evo.refl [] d4) ?_; refine aet 4 rfl (fun _ hS => aH rfl) (Evo.refl [] d4) ?_; refine aet 5 rfl (fun _ hS => aA rfl bG) (Evo.refl [] d4) ?_; refine aet 6 rfl (fun _ hS => aF rfl bU (aK (hS.blk0 (b4.blk0 e4)) rfl)) (Evo.refl [] d4) ?_; refine aN [2] (by kernel_rfl) rfl ⟨?_, trivial⟩; refine aO rfl ?_; refine aG (vs := [_]) rJ rfl (sS s.v hs.v) rfl ?_; rintro _ v3 ⟨rfl, d5⟩; have g3 := (Evo.refl [] d4).then d5; have g9 := d5.blk0 (b4.blk0 e4); refine aE (aJ (.inl g3) ?_); refine aet 7 rfl (fun _ hS => cN (m := cb s.v) (n := z.b) rfl rfl (by omega) (by omega) rfl (vV hs.v) (hz.b)) g3 ?_; refine aet 8 rfl (fun _ hS => fB rfl) g3 ?_; refine bN (by kernel_rfl) (aB ?_); refine csr (aD (aC (aH rfl) (aC (aA rfl bG) ?_)))
  refine aC (aF rfl bU (aK g9 rfl)) (aD ?_); refine aC (cN (m := z.b) (n := cb s.v ^^^ z.b) rfl rfl (by omega) (by omega) rfl (hz.b) (hx)) ?_; rw [show z.b ^^^ (cb s.v ^^^ z.b) = cb s.v by rw [Nat.xor_comm (cb s.v), ← Nat.xor_assoc, Nat.xor_self, Nat.zero_xor]]; refine aC (aH rfl) (aC (aA rfl bG) ?_); refine bE rfl rfl (by first | rfl | assumption) bM g9 rfl fun r8 e5 e6 => ?_
  have b5 := ((g2.then b4).then d5).step e6 (fun y hy => .inl (by simp at hy; simp [hy]))
  have h4 := e6.blk (d5.blk0 (b4.blk0 o6)) hzw.symm.nmem1; have h5 := ((o7.evo0 b4).evo0 d5).evo e6 hzo1.symm.own1
  try simp only [dH, Nat.reduceAdd] at e5
  refine wnn (aL (csr (aD (wel ?_)))); refine wnn (bP rfl (fun r3 => ?_) (fun r3 => ?_))
  ·refine csr (aD ?_)
   refine aG (vs := [_, _, _]) bK rfl (cR ⟨h4, h5, F.pk, F.ap⟩ 0 1 (by omega) (by omega) (by first | omega | (simp only [List.length_append, bW]; omega))) rfl ?_
   rintro _ r9 ⟨rfl, a5, m5, c5, bs5, ob5, h6, h7, hb5⟩; have hob5 := cM hob1 b5 hb5; refine wnn (aS (aI (qD rfl ?_)))
   have hx0 : cb s.v ^^^ z.b = 0 := by omega
   rw [lV W, gX, if_pos hx0]; refine ⟨rfl, a5, m5, c5, bs5, ob5, ?_, (h7.blk e5 (nm2 hzw hzo1)), (b5.step h7 (fun y hy => (cP hob1 y hy).imp (List.mem_cons_of_mem _) id)), hob5⟩
   rw [← List.append_assoc]; exact ⟨h6.blk, h6.own, h6.pk, h6.ap⟩
  have h0 : cb s.v ^^^ z.b ≠ 0 := by omega
  refine aR (aB (csr (aD (aG (vs := [_]) BY rfl (lz_call (cb s.v ^^^ z.b) _ hx) rfl ?_)))); rintro _ s0 ⟨rfl, Y⟩; refine aD (aG (vs := [_]) BX rfl (tz_ok (ht.evo (b5.then Y) h1) (cb s.v ^^^ z.b) hx h0) rfl ?_); rintro _ s1 ⟨rfl, b6⟩; have a0 := (b5.then Y).then b6; have b7 := b6.blk0 (Y.blk0 h4); have b8 := (h5.evo0 Y).evo0 b6; have G := b6.blk0 (Y.blk0 e5); have hlt := KI h0 hx; refine cL (wan (aL (csr (aD (aC (aH rfl) (wfl rfl gB rfl lB G rfl (aD (hX (t := 90) rfl (fun K => ?_) (fun K => ?_)))))))))
  ·refine aW (aD (aW (aC (aH rfl) (aW (aC (aA rfl fM) (aW (aC (aF rfl bF (aK G rfl)) (aW (aD (aW (aC (eP rfl rfl) ?_))))))))))); refine cF (aD (bQ (t := 98) rfl (fun r4 => ?_) (fun r4 => ?_)))
   ·refine aW (aD (aW (aC (aH rfl) (aW (aC (aA rfl eK) (aW (aC (aF rfl bF (aK G rfl)) (aW (aD (aW (aC (eP rfl rfl) ?_))))))))))); refine cF (wnn (bP rfl (fun o9 => ?_) (fun o9 => ?_)))
    ·refine csr (aD ?_)
     refine aG (vs := [_, _, _]) bK rfl (cR ⟨b7, b8, F.pk, F.ap⟩ 2 2 (by omega) (by omega) (by first | omega | (simp only [List.length_append, bW]; omega))) rfl ?_
     rintro _ s2 ⟨rfl, a6, m6, c6, bs6, ob6, h8, h9, hb6⟩; have hob6 := cM hob1 a0 hb6; have b9 := jT hzo1 (Lt.blk G) hb6; refine wnn (aL ?_); refine eG (fun w0 w' => Evo (bw :: ob6.toList) w0 w') (by kernel_rfl) (fun A c0 => ?_); have i0 := (a0.step h9 (fun y hy => (cP hob1 y hy).imp (List.mem_cons_of_mem _) id)).then c0; have d0 := c0.blk0 (h9.blk G (nm2 hzw hzo1)); refine aet 0 rfl (fun _ hS => aV rfl) (Evo.refl (bw :: ob6.toList) A) ?_; refine aet 1 rfl (fun _ hS => aV rfl) (Evo.refl (bw :: ob6.toList) A) ?_; refine aet 2 rfl (fun _ hS => aV rfl) (Evo.refl (bw :: ob6.toList) A) ?_; refine aet 3 rfl (fun _ hS => aH rfl) (Evo.refl (bw :: ob6.toList) A) ?_; refine aet 4 rfl (fun _ hS => aA rfl eK) (Evo.refl (bw :: ob6.toList) A) ?_; refine aet 5 rfl (fun _ hS => aF rfl bF (aK (hS.blk d0 (nm2 hzw b9)) rfl)) (Evo.refl (bw :: ob6.toList) A) ?_
     refine aet 6 rfl (fun _ hS => lJ (m := (cb s.v ^^^ z.b)) (n := z.f.r) rfl rfl (by omega) (by omega) (by first | exact Nat.le_of_ble_eq_true rfl | (simp only [IntKind.bits]; omega))) (Evo.refl (bw :: ob6.toList) A) ?_
     refine aet 7 rfl (fun _ hS => aV rfl) (Evo.refl (bw :: ob6.toList) A) ?_; refine aet 8 rfl (fun _ hS => aH rfl) (Evo.refl (bw :: ob6.toList) A) ?_; refine aet 9 rfl (fun _ hS => aA rfl fM) (Evo.refl (bw :: ob6.toList) A) ?_; refine aet 10 rfl (fun _ hS => aF rfl bF (aK (hS.blk d0 (nm2 hzw b9)) rfl)) (Evo.refl (bw :: ob6.toList) A) ?_; refine aet 11 rfl (fun _ hS => aX rfl rfl (by omega) (by omega)) (Evo.refl (bw :: ob6.toList) A) ?_; refine aet 12 rfl (fun _ hS => aV rfl) (Evo.refl (bw :: ob6.toList) A) ?_; refine aet 13 rfl (fun _ hS => aH rfl) (Evo.refl (bw :: ob6.toList) A) ?_; refine aet 14 rfl (fun _ hS => aA rfl eK) (Evo.refl (bw :: ob6.toList) A) ?_; refine aet 15 rfl (fun _ hS => aF rfl bF (aK (hS.blk d0 (nm2 hzw b9)) rfl)) (Evo.refl (bw :: ob6.toList) A) ?_; refine aet 16 rfl (fun _ hS => aX rfl rfl (by omega) (by omega)) (Evo.refl (bw :: ob6.toList) A) ?_; rw [show ((64 : Int) - (z.f.l : Nat) - (z.f.r : Nat)) = ((64 - z.f.l - z.f.r : Nat) : Int) by omega]; refine aN [17] (by kernel_rfl) rfl ⟨?_, trivial⟩; refine aO rfl ?_
     refine aG (vs := [_, _, _]) bK rfl (cR ⟨(c0.blk0 h8.blk), (h8.own.evo0 c0), h8.pk, h8.ap⟩ ((cb s.v ^^^ z.b) / 2 ^ z.f.r) (64 - z.f.l - z.f.r) (by omega) (Nat.lt_of_le_of_lt (Nat.div_le_self _ _) hx) (by first | omega | (simp only [List.length_append, bW]; omega))) rfl ?_
     rintro _ s3 ⟨rfl, a7, m7, c7, bs7, ob7, i1, e7, hb7⟩; have hob7 := cM hob6 i0 hb7; have p0 := i0.step e7 (fun y hy => (cP hob6 y hy).imp (List.mem_cons_of_mem _) id); refine aE (aJ (.inl ((Evo.refl (bw :: ob6.toList) A).step e7 (fun y hy => .inl hy))) ?_); refine bN (by kernel_rfl) (aB ?_); refine aS (aI (qD rfl ?_)); have hff : z.f.is = true ∧ z.f.l ≤ lz (cb s.v ^^^ z.b) ∧ z.f.r ≤ tz (cb s.v ^^^ z.b) := ⟨K, by omega, by omega⟩; rw [lV W, gX, if_neg h0, if_pos hff]; refine ⟨rfl, a7, m7, c7, bs7, ob7, ?_, (e7.blk d0 (nm2 hzw b9)), p0, hob7⟩
     rw [← List.append_assoc, ← List.append_assoc]; exact ⟨i1.blk, i1.own, i1.pk, i1.ap⟩
    refine aR (aB (csr (aD (aD (aD (aD (aD (aC (aH rfl) (aC (aA rfl gB) ?_))))))))); refine bE rfl rfl (by first | rfl | assumption) iK G rfl fun s4 i2 e8 => ?_
    have p3 := a0.step e8 (fun y hy => .inl (by simp at hy; simp [hy]))
    try simp only [dH, Nat.reduceAdd] at i2
    refine aC (aH rfl) (aC (aA rfl fM) ?_); refine bE rfl rfl (by first | rfl | assumption) eH i2 rfl fun s5 i3 e9 => ?_
    have p4 := p3.step e9 (fun y hy => .inl (by simp at hy; simp [hy]))
    try simp only [dH, Nat.reduceAdd] at i3
    refine aC (aH rfl) (aC (aA rfl eK) ?_); refine bE rfl rfl (by first | rfl | assumption) eH i3 rfl fun s6 f0 f1 => ?_
    have i4 := p4.step f1 (fun y hy => .inl (by simp at hy; simp [hy]))
    try simp only [dH, Nat.reduceAdd] at f0
    refine wnn (csr (aD ?_))
    refine aG (vs := [_, _, _]) bK rfl (cR ⟨(f1.blk (e9.blk (e8.blk b7 hzw.symm.nmem1) hzw.symm.nmem1) hzw.symm.nmem1), (((b8.evo e8 hzo1.symm.own1).evo e9 hzo1.symm.own1).evo f1 hzo1.symm.own1), F.pk, F.ap⟩ 6 3 (by omega) (by omega) (by first | omega | (simp only [List.length_append, bW]; omega))) rfl ?_
    rintro _ s7 ⟨rfl, a8, m8, c8, bs8, ob8, H, i5, hb8⟩; have hob8 := cM hob1 i4 hb8; have i6 := jT hzo1 (Lt.blk f0) hb8; have i7 := i4.step i5 (fun y hy => (cP hob1 y hy).imp (List.mem_cons_of_mem _) id); have i8 := i5.blk f0 (nm2 hzw hzo1); refine wnn (csr (aD (aD (aC (cX rfl Tryz.underlying3 Tryz.underlying95) ?_)))); rw [wB (show lz (cb s.v ^^^ z.b) < 18446744073709551616 by omega)]
    refine aG (vs := [_, _, _]) bK rfl (cR ⟨H.blk, H.own, H.pk, H.ap⟩ (lz (cb s.v ^^^ z.b)) 6 (by omega) (by omega) (by first | omega | (simp only [List.length_append, bW]; omega))) rfl ?_
    rintro _ s8 ⟨rfl, a9, m9, c9, bs9, ob9, I, i9, hb9⟩; have hob9 := cM hob8 i7 hb9; have j0 := jT i6 (Lt.blk i8) hb9; have j1 := i7.step i9 (fun y hy => (cP hob8 y hy).imp (List.mem_cons_of_mem _) id); have j2 := i9.blk i8 (nm2 hzw i6); refine wnn (csr (aD (aD ?_))); refine aC (aX rfl rfl (by omega) (by omega)) ?_; refine aD ?_; refine aC (aX rfl rfl (by omega) (by omega)) ?_; refine aC (aX rfl rfl (by omega) (by omega)) ?_; refine aC (cX rfl Tryz.underlying3 Tryz.underlying95) ?_
    rw [show u64 ((64 : Int) - (lz (cb s.v ^^^ z.b) : Nat) - (tz (cb s.v ^^^ z.b) : Nat) - 1) = 63 - lz (cb s.v ^^^ z.b) - tz (cb s.v ^^^ z.b) by unfold u64; omega]
    refine aG (vs := [_, _, _]) bK rfl (cR ⟨I.blk, I.own, I.pk, I.ap⟩ (63 - lz (cb s.v ^^^ z.b) - tz (cb s.v ^^^ z.b)) 6 (by omega) (by omega) (by first | omega | (simp only [List.length_append, bW]; omega))) rfl ?_
    rintro _ s9 ⟨rfl, a10, m10, c10, bs10, ob10, D, j3, hb10⟩; have hob10 := cM hob9 j1 hb10; have j4 := j1.step j3 (fun y hy => (cP hob9 y hy).imp (List.mem_cons_of_mem _) id); refine wnn (aQ (aD (aD (aD ?_))))
    refine aC (lJ (m := (cb s.v ^^^ z.b)) (n := tz (cb s.v ^^^ z.b)) rfl rfl (by omega) (by omega) (by first | exact Nat.le_of_ble_eq_true rfl | (simp only [IntKind.bits]; omega))) ?_
    refine aD ?_; refine aC (aX rfl rfl (by omega) (by omega)) ?_; refine aD ?_; refine aC (aX rfl rfl (by omega) (by omega)) ?_; rw [show ((64 : Int) - (lz (cb s.v ^^^ z.b) : Nat) - (tz (cb s.v ^^^ z.b) : Nat)) = ((64 - lz (cb s.v ^^^ z.b) - tz (cb s.v ^^^ z.b) : Nat) : Int) by omega]
    refine aG (vs := [_, _, _]) bK rfl (cR ⟨D.blk, D.own, D.pk, D.ap⟩ ((cb s.v ^^^ z.b) / 2 ^ tz (cb s.v ^^^ z.b)) (64 - lz (cb s.v ^^^ z.b) - tz (cb s.v ^^^ z.b)) (by omega) (Nat.lt_of_le_of_lt (Nat.div_le_self _ _) hx) (by first | omega | (simp only [List.length_append, bW]; omega))) rfl ?_
    rintro _ t0 ⟨rfl, a11, m11, c11, bs11, ob11, E, j5, hb11⟩; have hob11 := cM hob10 j4 hb11; refine aE (dS rfl ?_)
    have hff : ¬ (z.f.is = true ∧ z.f.l ≤ lz (cb s.v ^^^ z.b) ∧ z.f.r ≤ tz (cb s.v ^^^ z.b)) := fun ⟨h1, h2, h3⟩ => by first | omega | (rw [h1] at K; cases K)
    rw [lV W, gX, if_neg h0, if_neg hff]; refine ⟨rfl, a11, m11, c11, bs11, ob11, ?_, (j5.blk (j3.blk j2 (nm2 hzw j0)) (nm2 hzw (jT j0 (Lt.blk j2) hb10))), (j4.step j5 (fun y hy => (cP hob10 y hy).imp (List.mem_cons_of_mem _) id)), hob11⟩
    rw [← List.append_assoc, ← List.append_assoc, ← List.append_assoc, ← List.append_assoc]; exact ⟨E.blk, E.own, E.pk, E.ap⟩
   refine bB (bB (bB (bB (bB (bB (bY (wnn (cY rfl ?_)))))))); refine aR (aB (csr (aD (aD (aD (aD (aD (aC (aH rfl) (aC (aA rfl gB) ?_))))))))); refine bE rfl rfl (by first | rfl | assumption) iK G rfl fun t1 j6 f2 => ?_
   have p5 := a0.step f2 (fun y hy => .inl (by simp at hy; simp [hy]))
   try simp only [dH, Nat.reduceAdd] at j6
   refine aC (aH rfl) (aC (aA rfl fM) ?_); refine bE rfl rfl (by first | rfl | assumption) eH j6 rfl fun t2 j7 f3 => ?_
   have p6 := p5.step f3 (fun y hy => .inl (by simp at hy; simp [hy]))
   try simp only [dH, Nat.reduceAdd] at j7
   refine aC (aH rfl) (aC (aA rfl eK) ?_); refine bE rfl rfl (by first | rfl | assumption) eH j7 rfl fun t3 f4 f5 => ?_
   have j8 := p6.step f5 (fun y hy => .inl (by simp at hy; simp [hy]))
   try simp only [dH, Nat.reduceAdd] at f4
   refine wnn (csr (aD ?_))
   refine aG (vs := [_, _, _]) bK rfl (cR ⟨(f5.blk (f3.blk (f2.blk b7 hzw.symm.nmem1) hzw.symm.nmem1) hzw.symm.nmem1), (((b8.evo f2 hzo1.symm.own1).evo f3 hzo1.symm.own1).evo f5 hzo1.symm.own1), F.pk, F.ap⟩ 6 3 (by omega) (by omega) (by first | omega | (simp only [List.length_append, bW]; omega))) rfl ?_
   rintro _ t4 ⟨rfl, a8, m8, c8, bs8, ob8, H, j9, hb8⟩; have hob8 := cM hob1 j8 hb8; have k0 := jT hzo1 (Lt.blk f4) hb8; have k1 := j8.step j9 (fun y hy => (cP hob1 y hy).imp (List.mem_cons_of_mem _) id); have k2 := j9.blk f4 (nm2 hzw hzo1); refine wnn (csr (aD (aD (aC (cX rfl Tryz.underlying3 Tryz.underlying95) ?_)))); rw [wB (show lz (cb s.v ^^^ z.b) < 18446744073709551616 by omega)]
   refine aG (vs := [_, _, _]) bK rfl (cR ⟨H.blk, H.own, H.pk, H.ap⟩ (lz (cb s.v ^^^ z.b)) 6 (by omega) (by omega) (by first | omega | (simp only [List.length_append, bW]; omega))) rfl ?_
   rintro _ t5 ⟨rfl, a9, m9, c9, bs9, ob9, I, k3, hb9⟩; have hob9 := cM hob8 k1 hb9; have k4 := jT k0 (Lt.blk k2) hb9; have k5 := k1.step k3 (fun y hy => (cP hob8 y hy).imp (List.mem_cons_of_mem _) id); have k6 := k3.blk k2 (nm2 hzw k0); refine wnn (csr (aD (aD ?_))); refine aC (aX rfl rfl (by omega) (by omega)) ?_; refine aD ?_; refine aC (aX rfl rfl (by omega) (by omega)) ?_; refine aC (aX rfl rfl (by omega) (by omega)) ?_; refine aC (cX rfl Tryz.underlying3 Tryz.underlying95) ?_
   rw [show u64 ((64 : Int) - (lz (cb s.v ^^^ z.b) : Nat) - (tz (cb s.v ^^^ z.b) : Nat) - 1) = 63 - lz (cb s.v ^^^ z.b) - tz (cb s.v ^^^ z.b) by unfold u64; omega]
   refine aG (vs := [_, _, _]) bK rfl (cR ⟨I.blk, I.own, I.pk, I.ap⟩ (63 - lz (cb s.v ^^^ z.b) - tz (cb s.v ^^^ z.b)) 6 (by omega) (by omega) (by first | omega | (simp only [List.length_append, bW]; omega))) rfl ?_
   rintro _ t6 ⟨rfl, a10, m10, c10, bs10, ob10, D, k7, hb10⟩; have hob10 := cM hob9 k5 hb10; have k8 := k5.step k7 (fun y hy => (cP hob9 y hy).imp (List.mem_cons_of_mem _) id); refine wnn (aQ (aD (aD (aD ?_))))
   refine aC (lJ (m := (cb s.v ^^^ z.b)) (n := tz (cb s.v ^^^ z.b)) rfl rfl (by omega) (by omega) (by first | exact Nat.le_of_ble_eq_true rfl | (simp only [IntKind.bits]; omega))) ?_
   refine aD ?_; refine aC (aX rfl rfl (by omega) (by omega)) ?_; refine aD ?_; refine aC (aX rfl rfl (by omega) (by omega)) ?_; rw [show ((64 : Int) - (lz (cb s.v ^^^ z.b) : Nat) - (tz (cb s.v ^^^ z.b) : Nat)) = ((64 - lz (cb s.v ^^^ z.b) - tz (cb s.v ^^^ z.b) : Nat) : Int) by omega]
   refine aG (vs := [_, _, _]) bK rfl (cR ⟨D.blk, D.own, D.pk, D.ap⟩ ((cb s.v ^^^ z.b) / 2 ^ tz (cb s.v ^^^ z.b)) (64 - lz (cb s.v ^^^ z.b) - tz (cb s.v ^^^ z.b)) (by omega) (Nat.lt_of_le_of_lt (Nat.div_le_self _ _) hx) (by first | omega | (simp only [List.length_append, bW]; omega))) rfl ?_
   rintro _ t7 ⟨rfl, a11, m11, c11, bs11, ob11, E, k9, hb11⟩; have hob11 := cM hob10 k8 hb11; refine aE (dS rfl ?_)
   have hff : ¬ (z.f.is = true ∧ z.f.l ≤ lz (cb s.v ^^^ z.b) ∧ z.f.r ≤ tz (cb s.v ^^^ z.b)) := fun ⟨h1, h2, h3⟩ => by first | omega | (rw [h1] at K; cases K)
   rw [lV W, gX, if_neg h0, if_neg hff]; refine ⟨rfl, a11, m11, c11, bs11, ob11, ?_, (k9.blk (k7.blk k6 (nm2 hzw k4)) (nm2 hzw (jT k4 (Lt.blk k6) hb10))), (k8.step k9 (fun y hy => (cP hob10 y hy).imp (List.mem_cons_of_mem _) id)), hob11⟩
   rw [← List.append_assoc, ← List.append_assoc, ← List.append_assoc, ← List.append_assoc]; exact ⟨E.blk, E.own, E.pk, E.ap⟩
  refine bB (bB (bB (bB (bB (bB (bY (aD (bB (bB (bB (bB (bB (bB (bY ?_)))))))))))))); refine wnn (cY rfl ?_); refine aR (aB (csr (aD (aD (aD (aD (aD (aC (aH rfl) (aC (aA rfl gB) ?_))))))))); refine bE rfl rfl (by first | rfl | assumption) iK G rfl fun t8 l0 f6 => ?_
  have p7 := a0.step f6 (fun y hy => .inl (by simp at hy; simp [hy]))
  try simp only [dH, Nat.reduceAdd] at l0
  refine aC (aH rfl) (aC (aA rfl fM) ?_); refine bE rfl rfl (by first | rfl | assumption) eH l0 rfl fun t9 l1 f7 => ?_
  have p8 := p7.step f7 (fun y hy => .inl (by simp at hy; simp [hy]))
  try simp only [dH, Nat.reduceAdd] at l1
  refine aC (aH rfl) (aC (aA rfl eK) ?_); refine bE rfl rfl (by first | rfl | assumption) eH l1 rfl fun u0 f8 f9 => ?_
  have l2 := p8.step f9 (fun y hy => .inl (by simp at hy; simp [hy]))
  try simp only [dH, Nat.reduceAdd] at f8
  refine wnn (csr (aD ?_))
  refine aG (vs := [_, _, _]) bK rfl (cR ⟨(f9.blk (f7.blk (f6.blk b7 hzw.symm.nmem1) hzw.symm.nmem1) hzw.symm.nmem1), (((b8.evo f6 hzo1.symm.own1).evo f7 hzo1.symm.own1).evo f9 hzo1.symm.own1), F.pk, F.ap⟩ 6 3 (by omega) (by omega) (by first | omega | (simp only [List.length_append, bW]; omega))) rfl ?_
  rintro _ u1 ⟨rfl, a8, m8, c8, bs8, ob8, H, l3, hb8⟩; have hob8 := cM hob1 l2 hb8; have l4 := jT hzo1 (Lt.blk f8) hb8; have l5 := l2.step l3 (fun y hy => (cP hob1 y hy).imp (List.mem_cons_of_mem _) id); have l6 := l3.blk f8 (nm2 hzw hzo1); refine wnn (csr (aD (aD (aC (cX rfl Tryz.underlying3 Tryz.underlying95) ?_)))); rw [wB (show lz (cb s.v ^^^ z.b) < 18446744073709551616 by omega)]
  refine aG (vs := [_, _, _]) bK rfl (cR ⟨H.blk, H.own, H.pk, H.ap⟩ (lz (cb s.v ^^^ z.b)) 6 (by omega) (by omega) (by first | omega | (simp only [List.length_append, bW]; omega))) rfl ?_
  rintro _ u2 ⟨rfl, a9, m9, c9, bs9, ob9, I, l7, hb9⟩; have hob9 := cM hob8 l5 hb9; have l8 := jT l4 (Lt.blk l6) hb9; have l9 := l5.step l7 (fun y hy => (cP hob8 y hy).imp (List.mem_cons_of_mem _) id); have m0 := l7.blk l6 (nm2 hzw l4); refine wnn (csr (aD (aD ?_))); refine aC (aX rfl rfl (by omega) (by omega)) ?_; refine aD ?_; refine aC (aX rfl rfl (by omega) (by omega)) ?_; refine aC (aX rfl rfl (by omega) (by omega)) ?_; refine aC (cX rfl Tryz.underlying3 Tryz.underlying95) ?_
  rw [show u64 ((64 : Int) - (lz (cb s.v ^^^ z.b) : Nat) - (tz (cb s.v ^^^ z.b) : Nat) - 1) = 63 - lz (cb s.v ^^^ z.b) - tz (cb s.v ^^^ z.b) by unfold u64; omega]
  refine aG (vs := [_, _, _]) bK rfl (cR ⟨I.blk, I.own, I.pk, I.ap⟩ (63 - lz (cb s.v ^^^ z.b) - tz (cb s.v ^^^ z.b)) 6 (by omega) (by omega) (by first | omega | (simp only [List.length_append, bW]; omega))) rfl ?_
  rintro _ u3 ⟨rfl, a10, m10, c10, bs10, ob10, D, n0, hb10⟩; have hob10 := cM hob9 l9 hb10; have n1 := l9.step n0 (fun y hy => (cP hob9 y hy).imp (List.mem_cons_of_mem _) id); refine wnn (aQ (aD (aD (aD ?_))))
  refine aC (lJ (m := (cb s.v ^^^ z.b)) (n := tz (cb s.v ^^^ z.b)) rfl rfl (by omega) (by omega) (by first | exact Nat.le_of_ble_eq_true rfl | (simp only [IntKind.bits]; omega))) ?_
  refine aD ?_; refine aC (aX rfl rfl (by omega) (by omega)) ?_; refine aD ?_; refine aC (aX rfl rfl (by omega) (by omega)) ?_; rw [show ((64 : Int) - (lz (cb s.v ^^^ z.b) : Nat) - (tz (cb s.v ^^^ z.b) : Nat)) = ((64 - lz (cb s.v ^^^ z.b) - tz (cb s.v ^^^ z.b) : Nat) : Int) by omega]
  refine aG (vs := [_, _, _]) bK rfl (cR ⟨D.blk, D.own, D.pk, D.ap⟩ ((cb s.v ^^^ z.b) / 2 ^ tz (cb s.v ^^^ z.b)) (64 - lz (cb s.v ^^^ z.b) - tz (cb s.v ^^^ z.b)) (by omega) (Nat.lt_of_le_of_lt (Nat.div_le_self _ _) hx) (by first | omega | (simp only [List.length_append, bW]; omega))) rfl ?_
  rintro _ u4 ⟨rfl, a11, m11, c11, bs11, ob11, E, n2, hb11⟩; have hob11 := cM hob10 n1 hb11; refine aE (dS rfl ?_)
  have hff : ¬ (z.f.is = true ∧ z.f.l ≤ lz (cb s.v ^^^ z.b) ∧ z.f.r ≤ tz (cb s.v ^^^ z.b)) := fun ⟨h1, h2, h3⟩ => by first | omega | (rw [h1] at K; cases K)
  rw [lV W, gX, if_neg h0, if_neg hff]; refine ⟨rfl, a11, m11, c11, bs11, ob11, ?_, (n2.blk (n0.blk m0 (nm2 hzw l8)) (nm2 hzw (jT l8 (Lt.blk m0) hb10))), (n1.step n2 (fun y hy => (cP hob10 y hy).imp (List.mem_cons_of_mem _) id)), hob11⟩
  rw [← List.append_assoc, ← List.append_assoc, ← List.append_assoc, ← List.append_assoc]; exact ⟨E.blk, E.own, E.pk, E.ap⟩
theorem eR : hD Tryz.prog 50 = some true := by kernel_rfl
theorem uT : Build Tryz.prog 112 #[(0, 1), (1, 1)] #[.slice none 0 0, .int .i64 0] := ⟨_, .agg #[.slice none 0 0, .int .i64 0], Tryz.underlying112, by kernel_rfl, rfl, fun w => by kernel_rfl⟩
theorem nO : Build Tryz.prog 115 #[(0, 1), (1, 1), (2, 1), (3, 1), (4, 1), (5, 1), (6, 1)] #[.int .i64 0, .int .i64 0, .int .u64 0, .int .u64 0, .bool false, .int .i64 0, .int .i64 0] := ⟨_, .agg #[.int .i64 0, .int .i64 0, .int .u64 0, .int .u64 0, .bool false, .int .i64 0, .int .i64 0], Tryz.underlying115, by kernel_rfl, rfl, fun w => by kernel_rfl⟩
theorem CB : dC Tryz.prog 56 := ⟨_, Tryz.func56, by kernel_rfl, by kernel_rfl⟩
theorem cZ : eS Tryz.prog 50 = some 3 := by kernel_rfl
theorem kI : oA Tryz.prog 50 = some #[.int .i64 0, .float .f64 0, .bool false] := by kernel_rfl
theorem Tab.ne {w : World} {o : Option Nat} (ht : Tab w) (hg : Ge w o) : nU ∉ o.toList := fun h => by
  have := ht.lt
  cases o with
  | none => cases h
  | some g => simp at h; subst h; have := hg _ rfl; omega
theorem nm3 {w : World} {bz bw : Nat} {ob : Option Nat} (ht : Tab w) (h1 : Ge w (some bz)) (h2 : Ge w (some bw)) (h3 : Ge w ob) : nU ∉ bz :: bw :: ob.toList := fun h => by
  rcases List.mem_cons.1 h with h | h
  · exact ht.ne h1 (by simp [h])
  · rcases List.mem_cons.1 h with h | h
    · exact ht.ne h2 (by simp [h])
    · exact ht.ne h3 h
theorem ge3 {X : List Nat} {w : World} {bz bw : Nat} {ob : Option Nat} (h1 : Ge w (some bz)) (h2 : Ge w (some bw)) (h3 : Ge w ob) : ∀ y, y ∈ bz :: bw :: ob.toList → y ∈ X ∨ w.heap.size ≤ y := fun y h => by
  rcases List.mem_cons.1 h with h | h
  · exact .inr (by subst h; exact h1 _ rfl)
  · rcases List.mem_cons.1 h with h | h
    · exact .inr (by subst h; exact h2 _ rfl)
    · exact h3.mem y h
theorem ge2 {X : List Nat} {w : World} {bw : Nat} {ob : Option Nat} (h2 : Ge w (some bw)) (h3 : Ge w ob) : ∀ y, y ∈ bw :: ob.toList → y ∈ X ∨ w.heap.size ≤ y := fun y h => by
  rcases List.mem_cons.1 h with h | h
  · exact .inr (by subst h; exact h2 _ rfl)
  · exact h3.mem y h
theorem mem3 {w : World} {bz bw : Nat} {ob ob1 : Option Nat} (h : ob1 = ob ∨ Ge w ob1) : ∀ y, y ∈ bz :: bw :: ob1.toList → y ∈ bz :: bw :: ob.toList ∨ w.heap.size ≤ y := fun y hy => by
  rcases List.mem_cons.1 hy with h1 | h1
  · left; simp [h1]
  · exact (cP h y h1).imp (List.mem_cons_of_mem _) id
theorem wr0 {w : World} {bw : Nat} {U : TypeId} {rest : List Value} (h : w.heap[bw]? = some (.cells (.slice none 0 0 :: .int .i64 0 :: rest).toArray U (0, 0))) : Wr w bw U rest [] none 0 0 [] none :=
  ⟨h, OwnS.nil _ _ _, PacksN.nil 0, Apart.nil _⟩
theorem AF {X : List Nat} {w : World} {v0 : Value} {ds : List Smp} (hs : RSl 3 RSmp X w v0 ds) (hl : ds.length ≤ 140737488355328) (ht : Tab w) :
    Calls Tryz.prog 31 #[v0] w (Ret fun r w' => ∃ a n c bs e ob, r = .tuple #[.slice a n c, .int .i64 e] ∧ OwnS w' 5 1 a n c (bs.map bv) ob ∧ (∀ b, b ∈ bs → b < 256) ∧ Ge w ob ∧ qL ds bs e ∧ Evo [] w w') := by
  have hok := wH hs; have L := hs; obtain ⟨a0, c0, rfl, hlc, _⟩ := hs; refine aU (N := 54) Tryz.func31 rfl rfl rfl ?_; refine csr (cL (wan (aL (csr (aD (aC (aP rfl Tryz.underlying43 rfl) ?_)))))); refine aC (eQ rfl rfl) ?_; refine wnn (bP rfl (fun b7 => ?_) (fun b7 => ?_))
  ·refine csr (cL (wan (aS (aI (cQ rfl rfl rfl ?_))))); exact ⟨none, 0, 0, [], 1, none, rfl, OwnS.nil _ _ _, fun _ h => (by cases h), Ge.nil _, .inl ⟨by omega, rfl, rfl⟩, (Evo.refl [] w)⟩
  refine aR (aB (aL (csr (wan (aZ ?_))))); refine cH (α := Nat) (1) (fun k => [(4, .int .i64 (k : Nat))]) [(0, _)] (fun k wr => Evo [] w wr ∧ (1 ≤ k ∧ (k ≤ ds.length ∨ k = 1) ∧ RisesTo ds k)) (fun k => ds.length - k) ⟨rfl, trivial⟩ ⟨rfl, trivial⟩ ⟨Evo.refl _ _, ⟨Nat.le_refl _, .inr rfl, fun i _ h => by omega⟩⟩ ?_; rintro k wr1 ⟨b5, ⟨hk1, hk, hrs⟩⟩; show CW _ _ _ _ [(4, _), (0, _)] _; have F := (Evo.refl [] w).then b5; refine aL (csr (aD (aD (aC (aP rfl Tryz.underlying43 rfl) ?_)))); refine aC (cE rfl rfl) ?_; refine wnn (bP rfl (fun b9 => ?_) (fun b9 => ?_))
  ·have hk' : k < ds.length := by omega
   refine aR (aB (aL (aZ (aL ?_)))); obtain ⟨_, b1, o1, rfl, -, M⟩ := CO L hk'; obtain ⟨_, b2, o2, ha2, -, d0⟩ := CO L (k := k - 1) (by omega); cases ha2; refine jR (by kernel_rfl) (by kernel_rfl) ?_; refine cC (fun _ y => aV rfl) ?_; refine cC (fun _ y => aV rfl) ?_; refine cC (fun _ y => cS (n := k) rfl rfl mN (by omega)) ?_; refine cC (fun _ y => aA rfl eJ) ?_; refine cC (fun _ y => aF rfl fR ((M.evo (F.then y) (by simp)) 0 _ rfl)) ?_; refine cC (fun _ y => aV rfl) ?_; refine cC (fun _ y => aV rfl) ?_; refine cC (fun _ y => aX rfl rfl (by omega) (by omega)) ?_; refine cC (fun _ y => fK (n := k - 1) rfl rfl (by omega) mN (by omega)) ?_; refine cC (fun _ y => aA rfl eJ) ?_; refine cC (fun _ y => aF rfl fR ((d0.evo (F.then y) (by simp)) 0 _ rfl)) ?_; refine cC (fun _ y => eP rfl rfl) ?_; refine jC (fun d3 y => aB ?_); refine bP rfl (fun c4 => ?_) (fun c4 => ?_)
   ·refine csr (cL (wan (aS (bA (aI (aI (bA (aI (cQ rfl rfl rfl ?_)))))))))
    exact ⟨none, 0, 0, [], 170, none, rfl, OwnS.nil _ _ _, fun _ h => (by cases h), Ge.nil _, .inr (.inl ⟨by omega, fun h => by have := h (k - 1) (by omega); simp only [Nat.sub_add_cancel hk1] at this; omega, rfl, rfl⟩), (F.then y)⟩
   refine aR (bC (aB (aQ (aD ?_)))); refine aC (aT rfl rfl (by omega) (by omega)) ?_; refine cL (aE (aM ?_)); refine ⟨k + 1, ?_, ⟨rfl, trivial⟩, ⟨rfl, trivial⟩, (b5.then y), ?_⟩
   · omega
   exact ⟨by omega, by omega, hrs.succ hk' (by omega) (by omega)⟩
  refine bJ (bD (bD (bI (aB ?_)))); refine csr (aC (dR (vs := []) uT rfl (cells := [_, _]) rfl) ?_); refine dZ rfl rfl fun b8 w9 O c5 U => ?_; have H := Ge.new F c5; refine aC (dR (vs := []) nO rfl (cells := [_, _, _, _, _, _, _]) rfl) ?_; refine dZ rfl rfl fun J d4 V W Y => ?_; have a4 := Apart.new (Lt.blk O) W; have a5 := Ge.new (F.then U) W; have a6 := (F.then U).then Y; refine cL (wan (csr (aD (aD (aC (aP rfl Tryz.underlying43 rfl) ?_))))); refine aC (cX rfl Tryz.underlying3 Tryz.underlying95) ?_; rw [wB (show ds.length < 18446744073709551616 by omega)]; refine aG (vs := [_, _, _]) bK rfl (cR (wr0 (rest := []) (Y.blk0 O)) ds.length 17 (by omega) (by omega) (by simp)) rfl ?_; rintro _ b6 ⟨rfl, a1, m1, c1, bs1, ob1, d1, a7, hb1⟩; have hg1 := KY (Ge.nil _) a6 hb1; have a8 := a6.step a7 (ge2 H (Ge.nil _)); refine wnn (aL (csr (aD (aC (aP rfl Tryz.underlying43 rfl) ?_)))); refine aD (wnn (aZ ?_))
  refine cH (α := Nat × Option Addr × Nat × Nat × List Nat × Option Nat) ((0, a1, m1, c1, bs1, ob1)) (fun x => [(41, .int .i64 (x.1 : Nat))]) [(5, _), (6, _), (39, _), (40, _)] (fun x wr => Evo (J :: b8 :: ob1.toList) b6 wr ∧ (x.1 ≤ ds.length ∧ Wr wr b8 112 [] (gL ds x.1) x.2.1 x.2.2.1 x.2.2.2.1 x.2.2.2.2.1 x.2.2.2.2.2 ∧ wr.heap[J]? = some (.cells (zv (kV ds x.1)).toArray 115 (0, 0)) ∧ Apart (some J) x.2.2.2.2.2 ∧ (x.2.2.2.2.2 = ob1 ∨ Ge b6 x.2.2.2.2.2))) (fun x => ds.length - x.1) ⟨rfl, trivial⟩ ⟨rfl, rfl, rfl, rfl, trivial⟩ ⟨Evo.refl _ _, ⟨Nat.zero_le _, by rw [BK]; exact d1, by rw [GN]; exact (a7.blk V (nm2 a4.symm (Apart.nil _))), (jT (Apart.nil (some J)) (Lt.blk V) hb1), .inl rfl⟩⟩ ?_
  rintro ⟨k, a2, m2, c2, bs2, ob2⟩ wr32 ⟨I, ⟨hk, hR, hZ, hzo, hob2⟩⟩; show CW _ _ _ _ [(41, .int .i64 (k : Nat)), (5, _), (6, _), (39, _), (40, _)] _
  try dsimp only at hk hR hZ hzo hob2
  have G := a8.step I (ge3 a5 H hg1); have hg2 := KY hg1 a8 hob2; have hbl := ED ds k; have hso := ET k hok; have hsn := stAt_n (l := ds) hk; refine csr (aC (cE rfl rfl) ?_); refine wnn (aL (bP rfl (fun c6 => ?_) (fun c6 => ?_)))
  ·have hk' : k < ds.length := by omega
   obtain ⟨_, b1, o1, rfl, -, M⟩ := CO L hk'; refine aR (aB (aL (aZ (csr ?_)))); refine aC (cS (n := k) rfl rfl mN (by omega)) ?_; refine aC (dQ rfl eR cZ (vs := [_, _, _]) rfl (M.evo G (by simp))) ?_; refine dE rfl kI fun d5 d6 c7 A D => ?_; refine bT rfl rfl cZ c7 rfl rfl ⟨by first | rfl | assumption, by first | rfl | assumption, by first | rfl | assumption, trivial⟩ fun d7 c8 E => ?_; have a9 := (I.then D).step E (Ge.new I A).mem1; have b4 := E.blk (D.blk0 hZ) (Apart.new (Lt.blk hZ) A).nmem1; refine wnn (aQ (aD (aD (aC (cV rfl eR cZ c8 rfl) ?_)))); refine aG (vs := [_, _, _]) CB rfl (GF (s := ds[k]) ⟨(E.blk (D.blk0 hR.blk) (Apart.new (Lt.blk hR.blk) A).nmem1), ((hR.own.evo0 D).evo E (Apart.new (Lt.own hR.own) A).own1), hR.pk, hR.ap⟩ b4 a4.symm hzo hso (by omega) (hok _ (List.getElem_mem hk')) (by omega) (ht.evo ((G.then D).step E (Ge.new G A).mem1) (by simp)) (nm3 ht a5 H hg2)) rfl ?_; rintro _ d8 ⟨rfl, a3, m3, c3, bs3, ob3, K, d2, c9, hb3⟩; have hob3 := cM hob2 a9 hb3; have hzo3 := jT hzo (Lt.blk b4) hb3; refine aE (bC (aB (aQ ?_))); refine aC (aT rfl rfl (by omega) (by omega)) ?_; refine aD (aE (aM ?_)); refine ⟨(k + 1, a3, m3, c3, bs3, ob3), ?_, ⟨rfl, trivial⟩, ⟨rfl, rfl, rfl, rfl, trivial⟩, (a9.step c9 (mem3 hob2)), ?_⟩
   · (try dsimp only); omega
   try dsimp only
   refine ⟨by omega, ?_, ?_, hzo3, hob3⟩
   · rw [rE hk']; exact ⟨K.blk, K.own, K.pk, K.ap⟩
   · rw [pS hk']; exact d2
  refine bJ (bD (bD (bI (aB ?_)))); refine csr (aD (aC (aH rfl) (wfl rfl gZ rfl hU hR.blk rfl (cL (wan (aS (cQ rfl rfl rfl ?_)))))))
  have hkl : k = ds.length := by omega
  have hpk := hR.pk; rw [EE ds (by omega)] at hpk; exact ⟨a2, m2, c2, bs2, 0, ob2, rfl, hR.own, hpk.lt, hg2, .inr (.inr ⟨by omega, hrs.all (by omega), hpk, rfl⟩), G⟩
theorem pack_ok {X : List Nat} {w : World} {v0 : Value} {ds : List Smp} (hs : RSl 3 RSmp X w v0 ds) (hl : ds.length ≤ 140737488355328) (ht : Tab w) :
    Calls Tryz.prog 31 #[v0] w (Ret fun r w' => ∃ v bs e, r = .tuple #[v, .int .i64 e] ∧ RSl 1 RB [] w' v bs ∧ qL ds bs e ∧ Evo [] w w') :=
  (AF hs hl ht).mono fun _ _ ⟨v, he, _, _, _, bs, e1, _, hv, hO, hb, _, hP, hE⟩ => ⟨v, he, _, bs, e1, hv, FA hO hb (fun _ _ => by simp), hP, hE⟩
end Go.Proofs.YtlpdhbmhbjjnhaaGreatDoor
namespace Go.Proofs.YtlpdhbmhbjjnhaaGreatDoor
open Go Go.W
structure Rd where
  at' : Nat
  sh : Bool
def get (B : List Bool) (r : Rd) (n : Nat) : Nat × Rd := if r.at' + n ≤ B.length then (kC ((B.drop r.at').take n), ⟨r.at' + n, r.sh⟩) else (0, ⟨B.length, true⟩)
def dM (B : List Bool) : Rd → Nat → Nat × Rd
  | r, 0 => (0, r)
  | r, k + 1 => if (get B r 1).1 = 1 then ((dM B (get B r 1).2 k).1 + 1, (dM B (get B r 1).2 k).2) else (0, (get B r 1).2)
def EM (o : Nat) : Nat := if o = 1 then 7 else if o = 2 then 9 else if o = 3 then 12 else if o = 4 then 64 else 0
def less (o : Nat) : Int := if o = 1 then 63 else if o = 2 then 255 else if o = 3 then 2047 else 0
def jK (B : List Bool) (r : Rd) : Int × Rd :=
  (i64 (i64 (get B (dM B r 4).2 (EM (dM B r 4).1)).1 - less (dM B r 4).1), (get B (dM B r 4).2 (EM (dM B r 4).1)).2)
def bV (B : List Bool) (z : Stt) (r : Rd) : Int × Int × Rd :=
  if z.n = 0 then (i64 (get B r 64).1, 0, (get B r 64).2)
  else (i64 (z.t + i64 (z.d + (jK B r).1)), i64 (z.d + (jK B r).1), (jK B r).2)
def qS (z : Stt) (t d : Int) : Stt := { z with n := z.n + 1, t := t, d := d }
def gH (B : List Bool) (f : Frm) (o : Nat) (r : Rd) : Bool × Frm × Rd :=
  if o = 2 then
    if 64 < (get B r 6).1 + ((get B (get B r 6).2 6).1 + 1) then (false, f, (get B (get B r 6).2 6).2)
    else (true, ⟨true, (get B r 6).1, 64 - (get B r 6).1 - ((get B (get B r 6).2 6).1 + 1)⟩, (get B (get B r 6).2 6).2)
  else (f.is, f, r)
def eT (B : List Bool) (z : Stt) (r : Rd) : Smp × Bool × Stt × Rd :=
  let h := bV B z r
  let ok := decide (z.n = 0 ∨ z.t < h.1)
  let z1 := qS z h.1 h.2.1
  let o := dM B h.2.2 3
  if o.1 = 3 then (⟨h.1, 0, true⟩, ok, z1, o.2)
  else if o.1 = 0 then (⟨h.1, z.b, false⟩, ok && decide (cb z.b = z.b), z1, o.2)
  else
    let f := gH B z.f o.1 o.2
    if f.1 = false then (⟨h.1, 0, false⟩, false, { z1 with f := f.2.1 }, f.2.2)
    else
      let g := get B f.2.2 (64 - f.2.1.l - f.2.1.r)
      let b := z.b ^^^ (g.1 * 2 ^ f.2.1.r % 18446744073709551616)
      (⟨h.1, b, false⟩, ok && decide (cb b = b), { z1 with b := b, f := f.2.1 }, g.2)
theorem iN {B : List Bool} {a : Nat} {sh : Bool} {v n : Nat} {rest : List Bool} (hv : v < 2 ^ n) (ha : a ≤ B.length) (h : B.drop a = num v n ++ rest) : get B ⟨a, sh⟩ n = (v, ⟨a + n, sh⟩) := by
  have hl := congrArg List.length h
  simp only [List.length_drop, List.length_append, bW] at hl
  unfold get
  rw [if_pos (by simp only; omega)]
  simp only [h]
  rw [List.take_left' (by simp), uY n v hv]
theorem DR (B : List Bool) (r : Rd) (n : Nat) : (get B r n).1 < 2 ^ n := by
  unfold get
  split
  · simp only
    have := zJ ((B.drop r.at').take n)
    exact Nat.lt_of_lt_of_le this (Nat.pow_le_pow_right (by omega) (by simp only [List.length_take]; omega))
  · exact Nat.two_pow_pos n
theorem kL {B : List Bool} {r : Rd} (h : r.at' ≤ B.length) (n : Nat) : (get B r n).2.at' ≤ B.length := by
  unfold get; split <;> simp only <;> omega
theorem rT {B : List Bool} : ∀ {k : Nat} {r : Rd}, r.at' ≤ B.length → (dM B r k).2.at' ≤ B.length
  | 0, _, h => h
  | k + 1, r, h => by
    unfold dM
    split
    · exact rT (kL h 1)
    · exact kL h 1
theorem wN (B : List Bool) : ∀ (k : Nat) (r : Rd), (dM B r k).1 ≤ k
  | 0, _ => Nat.le_refl _
  | k + 1, r => by
    unfold dM
    split
    · have := wN B k (get B r 1).2; simp only; omega
    · simp
theorem JM {B : List Bool} {r : Rd} (h : r.at' ≤ B.length) : (jK B r).2.at' ≤ B.length := kL (rT h) _
theorem gR {B a b : List Bool} {n : Nat} (h : B.drop n = a ++ b) : B.drop (n + a.length) = b := by
  rw [← List.drop_drop, h, List.drop_left]
theorem AI {B : List Bool} {a : Nat} {sh : Bool} {rest : List Bool} : ∀ {k : Nat}, a ≤ B.length → B.drop a = List.replicate k true ++ rest → dM B ⟨a, sh⟩ k = (k, ⟨a + k, sh⟩) := by
  intro k
  induction k generalizing a with
  | zero => intro _ _; rfl
  | succ k ih =>
    intro ha h
    have h1 : B.drop a = num 1 1 ++ (List.replicate k true ++ rest) := by rw [h, List.replicate_succ]; rfl
    have hg := iN (sh := sh) (show 1 < 2 ^ 1 by omega) ha h1
    have hd := gR h1
    have hl := congrArg List.length h1
    simp only [List.length_drop, List.length_append, bW] at hl
    unfold dM
    rw [hg, if_pos rfl]
    simp only [bW] at hd
    rw [ih (by omega) hd]
    simp only [Prod.mk.injEq, Rd.mk.injEq, true_and, and_true]
    omega
theorem iG {B : List Bool} {a : Nat} {sh : Bool} {rest : List Bool} : ∀ {k m : Nat}, k < m → a ≤ B.length → B.drop a = List.replicate k true ++ (false :: rest) → dM B ⟨a, sh⟩ m = (k, ⟨a + k + 1, sh⟩) := by
  intro k
  induction k generalizing a with
  | zero =>
    intro m hm ha h
    obtain ⟨m, rfl⟩ : ∃ m', m = m' + 1 := ⟨m - 1, by omega⟩
    have h1 : B.drop a = num 0 1 ++ rest := by rw [h]; rfl
    have hg := iN (sh := sh) (show 0 < 2 ^ 1 by omega) ha h1
    unfold dM
    rw [hg, if_neg (by simp)]
  | succ k ih =>
    intro m hm ha h
    obtain ⟨m, rfl⟩ : ∃ m', m = m' + 1 := ⟨m - 1, by omega⟩
    have h1 : B.drop a = num 1 1 ++ (List.replicate k true ++ (false :: rest)) := by rw [h, List.replicate_succ]; rfl
    have hg := iN (sh := sh) (show 1 < 2 ^ 1 by omega) ha h1
    have hd := gR h1
    have hl := congrArg List.length h1
    simp only [List.length_drop, List.length_append, bW] at hl
    unfold dM
    rw [hg, if_pos rfl]
    simp only [bW] at hd
    rw [ih (by omega) (by omega) hd]
    simp only [Prod.mk.injEq, Rd.mk.injEq, true_and, and_true]
    omega
theorem lL {B a b : List Bool} {n : Nat} (hn : n ≤ B.length) (h : B.drop n = a ++ b) : n + a.length ≤ B.length := by
  have := congrArg List.length h
  simp only [List.length_drop, List.length_append] at this
  omega
theorem qB (e k : Int) (h0 : 0 ≤ e + k) (h : e + k < 10000) (hk : 0 ≤ k ∧ k ≤ 10000) : i64 (i64 ((e + k).toNat : Nat) - k) = e := by
  have e1 : i64 (((e + k).toNat : Nat) : Int) = e + k := by rw [kK (by omega) (by omega)]; omega
  rw [e1, kK (by omega) (by omega)]; omega
theorem CQ {B : List Bool} {a : Nat} {sh : Bool} {e : Int} {rest : List Bool} (he : -9223372036854775808 ≤ e ∧ e ≤ 9223372036854775807) (ha : a ≤ B.length) (h : B.drop a = eB e ++ rest) :
    jK B ⟨a, sh⟩ = (e, ⟨a + (eB e).length, sh⟩) := by
  have key : ∀ (o v n : Nat) (P : List Bool), dM B ⟨a, sh⟩ 4 = (o, ⟨a + P.length, sh⟩) → eB e = P ++ num v n → EM o = n → v < 2 ^ n → i64 (i64 v - less o) = e → jK B ⟨a, sh⟩ = (e, ⟨a + (eB e).length, sh⟩) := by
    intro o v n P ho ht hw hv he2
    rw [ht, List.append_assoc] at h
    have hd := gR h
    have hg := iN (sh := sh) hv (lL ha h) hd
    unfold jK
    rw [ho, hw, hg]
    simp only [he2, ht, List.length_append, bW]
    rw [Nat.add_assoc]
  unfold eB at h key ⊢
  split at h
  · rename_i h0
    rw [if_pos h0] at key ⊢
    refine key 0 0 0 (num 0 1) ?_ rfl rfl (by omega) (by subst h0; rfl)
    have : B.drop a = List.replicate 0 true ++ (false :: rest) := by rw [h]; rfl
    exact iG (by omega) ha this
  · rename_i h0
    rw [if_neg h0] at key ⊢
    split at h
    · rename_i h1
      rw [if_pos h1] at key ⊢
      refine key 1 _ 7 (num 2 2) ?_ rfl rfl (by omega) (qB e _ (by omega) (by omega) (by omega))
      have : B.drop a = List.replicate 1 true ++ (false :: (num (e + 63).toNat 7 ++ rest)) := by rw [h, List.append_assoc]; rfl
      exact iG (by omega) ha this
    · rename_i h1
      rw [if_neg h1] at key ⊢
      split at h
      · rename_i h2
        rw [if_pos h2] at key ⊢
        refine key 2 _ 9 (num 6 3) ?_ rfl rfl (by omega) (qB e _ (by omega) (by omega) (by omega))
        have : B.drop a = List.replicate 2 true ++ (false :: (num (e + 255).toNat 9 ++ rest)) := by rw [h, List.append_assoc]; rfl
        exact iG (by omega) ha this
      · rename_i h2
        rw [if_neg h2] at key ⊢
        split at h
        · rename_i h3
          rw [if_pos h3] at key ⊢
          refine key 3 _ 12 (num 14 4) ?_ rfl rfl (by omega) (qB e _ (by omega) (by omega) (by omega))
          have : B.drop a = List.replicate 3 true ++ (false :: (num (e + 2047).toNat 12 ++ rest)) := by rw [h, List.append_assoc]; rfl
          exact iG (by omega) ha this
        · rename_i h3
          rw [if_neg h3] at key ⊢
          refine key 4 _ 64 (num 15 4) ?_ rfl rfl (gE _) (by simp only [less]; rw [rW]; simp; rw [kK (iM _).1 (iM _).2, kK he.1 he.2])
          have : B.drop a = List.replicate 4 true ++ (num (u64 e) 64 ++ rest) := by rw [h, List.append_assoc]; rfl
          exact AI ha this
def fO (s : Smp) : Smp := if s.st = true then ⟨s.t, 0, true⟩ else ⟨s.t, cb s.v, false⟩
def kJ (s : Smp) : Prop := if s.st = true then s.v = 0 else cb s.v = s.v
theorem tG {s : Smp} (h : s.st = true) : fO s = ⟨s.t, 0, true⟩ := by unfold fO; rw [if_pos h]
theorem rX {s : Smp} (h : s.st = false) : fO s = ⟨s.t, cb s.v, false⟩ := by unfold fO; rw [if_neg (by simp [h])]
theorem rY (s : Smp) : (fO s).t = s.t := by unfold fO; split <;> rfl
theorem BJ (s : Smp) : kJ (fO s) := by
  unfold fO kJ
  split
  · rfl
  · simp only [Bool.false_eq_true, if_false]; exact BI _
theorem LP {s : Smp} (h : s.Ok) : (fO s).Ok := by
  unfold fO
  split
  · exact ⟨h.t, by simp⟩
  · exact ⟨h.t, vV h.v⟩
theorem LQ {s : Smp} (h : kJ s) : fO s = s := by
  obtain ⟨t, v, st⟩ := s
  unfold kJ at h
  cases st
  · simp only [Bool.false_eq_true, if_false] at h; rw [rX rfl]; simp only; rw [h]
  · simp only [if_true] at h; rw [tG rfl]; simp only; rw [h]
theorem qN (z : Stt) (s : Smp) : fS z (fO s) = fS z s := by unfold fS; rw [rY]
theorem qO (z : Stt) (s : Smp) : iU z (fO s) = iU z s := by unfold iU; rw [rY]
theorem CK (z : Stt) (s : Smp) : step z (fO s) = step z s := by
  cases h : s.st with
  | true => rw [rP h, rP (by rw [tG h]), qN, qO]
  | false => rw [lV h, lV (by rw [rX h]), qN, qO, rX h]; simp only [BI]
theorem tN : ∀ (l : List Smp) (z : Stt), body z (l.map fO) = body z l
  | [], _ => rfl
  | s :: l, z => by simp only [List.map_cons, body, CK]; rw [tN l]
theorem DT (l : List Smp) : iW (l.map fO) = iW l := by simp only [iW, List.length_map, tN]
theorem sO {B : List Bool} {a : Nat} {sh : Bool} {z : Stt} {s : Smp} {rest : List Bool} (hs : s.Ok) (ha : a ≤ B.length) (h : B.drop a = fS z s ++ rest) :
    bV B z ⟨a, sh⟩ = (s.t, (iU z s).d, ⟨a + (fS z s).length, sh⟩) := by
  unfold fS at h ⊢
  unfold bV iU
  split at h
  · rename_i hn
    rw [if_pos hn, if_pos hn, iN (gE _) ha h, rW, kK hs.t.1 hs.t.2]
    simp [hn]
  · rename_i hn
    rw [if_neg hn, if_neg hn, CQ (iM _) ha h]
    simp only [if_neg hn]
    have e1 : i64 (z.d + i64 (s.t - z.t - z.d)) = i64 (s.t - z.t) := by rw [AQ]; congr 1; omega
    rw [e1, AQ, show z.t + (s.t - z.t) = s.t by omega, kK hs.t.1 hs.t.2]
theorem zX (z : Stt) (s : Smp) : qS z s.t (iU z s).d = iU z s := rfl
theorem rZ (c b : Nat) : b ^^^ (c ^^^ b) = c := by rw [Nat.xor_comm c, ← Nat.xor_assoc, Nat.xor_self, Nat.zero_xor]
theorem ID {c b : Nat} (h : c ^^^ b = 0) : b = c := by have := rZ c b; rw [h, Nat.xor_zero] at this; exact this
theorem GU {B : List Bool} {a : Nat} {sh : Bool} {z : Stt} {s : Smp} {rest : List Bool} (hz : z.Ok) (hs : s.Ok) (ht : z.n = 0 ∨ z.t < s.t) (ha : a ≤ B.length) (h : B.drop a = (step z s).1 ++ rest) :
    eT B z ⟨a, sh⟩ = (fO s, true, (step z s).2, ⟨a + (step z s).1.length, sh⟩) := by
  have hx := cW (vV hs.v) hz.b
  cases hst : s.st with
  | true =>
    rw [rP hst] at h ⊢
    simp only at h ⊢
    rw [List.append_assoc] at h
    have hh := sO (sh := sh) hs ha h
    have hd := gR h
    have ho : dM B ⟨a + (fS z s).length, sh⟩ 3 = (3, ⟨a + (fS z s).length + 3, sh⟩) := AI (lL ha h) (rest := rest) (by rw [hd]; rfl)
    unfold eT
    simp only [hh, ho, zX, if_true]
    rw [tG hst, decide_eq_true ht]
    simp [Nat.add_assoc]
  | false =>
    rw [lV hst] at h ⊢
    simp only at h ⊢
    rw [List.append_assoc] at h
    have hh := sO (sh := sh) hs ha h
    have hd := gR h
    have hle := lL ha h
    unfold eT
    simp only [hh, zX]
    rw [rX hst, decide_eq_true ht]
    generalize hx0 : cb s.v ^^^ z.b = x at *
    by_cases h0 : x = 0
    · have hv : gX x z.f = (num 0 1, z.f) := by unfold gX; rw [if_pos h0]
      rw [hv] at hd ⊢
      simp only at hd ⊢
      have ho : dM B ⟨a + (fS z s).length, sh⟩ 3 = (0, ⟨a + (fS z s).length + 0 + 1, sh⟩) := iG (k := 0) (by omega) hle (rest := rest) (by rw [hd]; rfl)
      have hb : z.b = cb s.v := ID (hx0.trans h0)
      simp only [ho, if_true]
      rw [if_neg (by omega)]
      simp only [iU, hb, BI, decide_true, Bool.and_true, List.length_append, bW, Prod.mk.injEq, Rd.mk.injEq, true_and, and_true]
      omega
    · by_cases hf : z.f.is = true ∧ z.f.l ≤ lz x ∧ z.f.r ≤ tz x
      · have hv : gX x z.f = (num 2 2 ++ num (x / 2 ^ z.f.r) (64 - z.f.l - z.f.r), z.f) := by unfold gX; rw [if_neg h0, if_pos hf]
        rw [hv] at hd ⊢
        simp only at hd ⊢
        rw [List.append_assoc] at hd
        have ho : dM B ⟨a + (fS z s).length, sh⟩ 3 = (1, ⟨a + (fS z s).length + 1 + 1, sh⟩) := iG (k := 1) (by omega) hle (rest := num (x / 2 ^ z.f.r) (64 - z.f.l - z.f.r) ++ rest) (by rw [hd]; rfl)
        have hd2 := gR hd
        have hle2 := lL hle hd
        simp only [bW] at hd2 hle2
        have hg := iN (sh := sh) (zO h0 hx hf.2.1 hz.f) hle2 hd2
        have hsb := sF h0 hx hf.2.2
        have q1 : ¬ (1 : Nat) = 3 := by omega
        have q2 : ¬ (1 : Nat) = 0 := by omega
        have q3 : ¬ (1 : Nat) = 2 := by omega
        simp only [ho, gH, if_neg q1, if_neg q2, if_neg q3]
        rw [if_neg (by simp [hf.1]), Nat.add_assoc _ 1 1, hg]
        simp only [hsb, Nat.mod_eq_of_lt hx]
        rw [← hx0, rZ]
        simp only [BI, decide_true, Bool.and_true, List.length_append, bW, Prod.mk.injEq, Rd.mk.injEq, true_and, and_true]
        omega
      · have hv : gX x z.f = (num 6 3 ++ num (lz x) 6 ++ num (63 - lz x - tz x) 6 ++ num (x / 2 ^ tz x) (64 - lz x - tz x), ⟨true, lz x, tz x⟩) := by unfold gX; rw [if_neg h0, if_neg hf]
        have hlt := KI h0 hx
        rw [hv] at hd ⊢
        simp only at hd ⊢
        simp only [List.append_assoc] at hd
        have ho : dM B ⟨a + (fS z s).length, sh⟩ 3 = (2, ⟨a + (fS z s).length + 2 + 1, sh⟩) := iG (k := 2) (by omega) hle (rest := num (lz x) 6 ++ (num (63 - lz x - tz x) 6 ++ (num (x / 2 ^ tz x) (64 - lz x - tz x) ++ rest))) (by rw [hd]; rfl)
        have hd2 := gR hd
        have hle2 := lL hle hd
        have hd3 := gR hd2
        have hle3 := lL hle2 hd2
        have hd4 := gR hd3
        have hle4 := lL hle3 hd3
        simp only [bW] at hd2 hle2 hd3 hle3 hd4 hle4
        have hg2 := iN (sh := sh) (show lz x < 2 ^ 6 by omega) hle2 hd2
        have hg3 := iN (sh := sh) (show 63 - lz x - tz x < 2 ^ 6 by omega) hle3 hd3
        have hg4 := iN (sh := sh) (zO h0 hx (Nat.le_refl _) (by omega)) hle4 hd4
        have hsb := sF h0 hx (Nat.le_refl _)
        have q1 : ¬ (2 : Nat) = 3 := by omega
        have q2 : ¬ (2 : Nat) = 0 := by omega
        simp only [ho, gH, if_neg q1, if_neg q2, if_true]
        rw [Nat.add_assoc _ 2 1, hg2]
        simp only
        rw [hg3]
        simp only [if_neg (show ¬ 64 < lz x + (63 - lz x - tz x + 1) by omega)]
        rw [if_neg (by simp), show 64 - lz x - (63 - lz x - tz x + 1) = tz x by omega, hg4]
        simp only [hsb, Nat.mod_eq_of_lt hx]
        rw [← hx0, rZ]
        simp only [BI, decide_true, Bool.and_true, List.length_append, bW, Prod.mk.injEq, Rd.mk.injEq, true_and, and_true]
        omega
end Go.Proofs.YtlpdhbmhbjjnhaaGreatDoor
