/- Parses: part 1 of 7 of what the law rests on. -/
import Derived.Test.YtljadkcojnlioaaGreatDoorRows
import Derived.Test.YtljadkcojnlioaaGreatDoorTie
import Derived.WalkKit
import Derived.OrdersHeld
import Derived.Deep.LoopGhost
import Derived.Deep.Quiet
import Derived.KernelRfl
import Derived.ProofKit
import Derived.OpenShut
import Derived.SizedLaws
import Derived.ChangeOld
import Derived.Shelf.Strings.Builder1
import Derived.Shelf.Small.Bits
import Derived.Shelf.Small.Strs
import Derived.Shelf.Strings.BuilderF
import Derived.Shelf.Strings.BuilderK
import Derived.Shelf.Strings.BuilderRune
import Derived.Shelf.Strconv.Itoa0
import Derived.Shelf.Strconv.Itoa1
import Derived.Shelf.LaysM
import Derived.Shelf.Strconv.Itoa2
import Derived.Shelf.Strconv.Itoa3
import Derived.Shelf.Strings.Search1
import Derived.Shelf.Strings.Search2
import Derived.Shelf.Strings.Search3
import Derived.Shelf.Strings.Shaped
import Derived.Shelf.Strings.Prefix
import Derived.Test.YtljadkcojnlioaaGreatDoorProg
import Derived.Shelf.SlSortCmp.WholeK
import Derived.Ground.SlsfProg
import Derived.Laws.MakeOwn
import Derived.Laws.OwnMore
import Derived.Laws.BytesString
import Derived.Laws.RangeAny
import Derived.Laws.Strings2
import Derived.Laws.Slices
import Derived.Laws.Small
import Derived.Laws.Concat
import Derived.Lib.DecodeN
import Derived.Scope
import Derived.RangeFuncNested
import Derived.RangeFuncLeaves
import Derived.RangeFuncCalls
import Derived.TacticsIn
import Derived.OwnWalkIn
import Derived.Maps.RangeRun
import Derived.WalkSmall
import Derived.Recover
import Derived.Lib.AppendStr
import Derived.Shelf.Strings.Builder2
import Derived.Lib.TrailingZeros
import Derived.Shelf.GgSortFunc.RowK
import Derived.Shelf.SlSortCmp.NoneTotal
import Derived.Lib.Index
import Derived.Lib.ItoaNum
import Derived.JoinedCond
import Derived.Deep.DeepHandedRow
import Derived.Lib.LaidTab
import Derived.Lay
import Derived.Test.YtljadkcojnlioaaGreatDoorCards
import Derived.Shelf.Sort.Plain
import Derived.Shelf.Slices.CompactS
import Derived.Shelf.Slices.In.SortNone
import Derived.Shelf.Slices.Cells
import Derived.Shelf.Slices.Clone
import Derived.Lib.Repeat
set_option linter.unusedSectionVars false
set_option linter.unusedSimpArgs false
set_option linter.unusedVariables false
namespace Go.W
theorem cH : (∀ {α : Type} (l : List α) (i : Nat) (a : α), l.toArray.setIfInBounds i a = (l.set i a).toArray) ∧ (∀ {α : Type} (x a : α) (l : List α), (x :: l).set 0 a = a :: l) ∧ (∀ {α : Type} (x a : α) (l : List α) (n : Nat), (x :: l).set (n + 1) a = x :: l.set n a) ∧ (∀ n : Nat, 0 + n = n) ∧ (∀ n : Nat, n + 0 = n) := ⟨fun _ _ _ => List.setIfInBounds_toArray .., fun _ _ _ => rfl, fun _ _ _ _ => rfl, Nat.zero_add, Nat.add_zero⟩
abbrev Env := List (Nat × Value)
def Env.get : Env → Nat → Option Value
  | [], _ => none
  | (k, v) :: r, t => cond (Nat.beq k t) (some v) (Env.get r t)
def Env.ev (σ : Env) : Operand → Option Value
  | .tmp t => σ.get t
  | .const v => some v
  | .global g => some (.pointer (some ⟨g, 0, none⟩))
  | .func f => some (.func (.func f) #[] #[])
abbrev NN := Nat × List Deferred
def Fits (N : NN) (σ : Env) (a : Act) : Prop := a.tmps.size = N.1 ∧ a.defers = N.2 ∧ ∀ t v, σ.get t = some v → a.tmps.getD t undef = v
def HC (σ : Env) (ρ : Operand → Value) : Prop := ∀ x v, σ.ev x = some v → ρ x = v
theorem Fits.agrees {N : NN} {σ : Env} {a : Act} (h : Fits N σ a) : HC σ a.eval := by
  intro x v hx
  cases x with
  | tmp t => exact h.2.2 t v hx
  | const u => simp only [Env.ev, Option.some.injEq] at hx; exact hx
  | global g => simp only [Env.ev, Option.some.injEq] at hx; exact hx
  | func f => simp only [Env.ev, Option.some.injEq] at hx; exact hx
theorem Fits.put {N : NN} {σ : Env} {a : Act} (h : Fits N σ a) {d : Nat} (hd : d < N.1) (v : Value) : Fits N ((d, v) :: σ) (a.put (some d) v) := by
  refine ⟨by simp [Act.put, h.1], h.2.1, fun t u hu => ?_⟩
  simp only [Env.get] at hu
  cases hk : Nat.beq d t with
  | true =>
    rw [hk] at hu
    have : d = t := Nat.eq_of_beq_eq_true hk
    subst this
    simp only [cond_true, Option.some.injEq] at hu
    have hs : d < a.tmps.size := by rw [h.1]; exact hd
    simp [Act.put, hs, hu]
  | false =>
    rw [hk] at hu
    have hne : d ≠ t := Nat.ne_of_beq_eq_false hk
    have := h.2.2 t u hu
    simp only [Act.put, Array.getD_eq_getD_getElem?, Array.getElem?_setIfInBounds_ne hne] at this ⊢
    exact this
def Sub : Env → Env → Prop
  | [], _ => True
  | (k, v) :: r, σ => σ.get k = some v ∧ Sub r σ
theorem Sub.get {S σ : Env} (h : Sub S σ) : ∀ t v, S.get t = some v → σ.get t = some v := by
  induction S with
  | nil => intro t v hv; cases hv
  | cons p r ih =>
    obtain ⟨k, u⟩ := p
    intro t v hv
    simp only [Env.get] at hv
    cases hk : Nat.beq k t with
    | true =>
      rw [hk] at hv
      have : k = t := Nat.eq_of_beq_eq_true hk
      subst this
      simp only [cond_true, Option.some.injEq] at hv
      subst hv
      exact h.1
    | false => rw [hk] at hv; exact ih h.2 t v hv
theorem Env.get_append {A B : Env} : ∀ t v, (A ++ B).get t = some v → A.get t = some v ∨ (A.get t = none ∧ B.get t = some v) := by
  induction A with
  | nil => intro t v h; exact .inr ⟨rfl, h⟩
  | cons p r ih =>
    obtain ⟨k, u⟩ := p
    intro t v h
    simp only [List.cons_append, Env.get] at h ⊢
    cases hk : Nat.beq k t with
    | true => rw [hk] at h; exact .inl h
    | false => rw [hk] at h; exact ih t v h
theorem Fits.app {N : NN} {A B σ τ : Env} {a : Act} (hA : Sub A σ) (hB : Sub B τ) (h : Fits N σ a) (h' : Fits N τ a) : Fits N (A ++ B) a :=
  ⟨h.1, h.2.1, fun t v hv => by
    rcases Env.get_append t v hv with h1 | ⟨_, h1⟩
    · exact h.2.2 t v (hA.get t v h1)
    · exact h'.2.2 t v (hB.get t v h1)⟩
abbrev jZ := Exit → NN → Env → World → Prop
def toQ (R : jZ) : Exit → Act → World → Prop
  | .panic c, a, w => ∃ N σ, Fits N σ a ∧ R (.panic c) N σ w
  | .outgrown, _, w => ∃ N : NN, R .outgrown N [] w
  | .normal, a, w => ∃ N σ, Fits N σ a ∧ R .normal N σ w
  | .exit i, a, w => ∃ N σ, Fits N σ a ∧ R (.exit i) N σ w
  | .goto l, a, w => ∃ N σ, Fits N σ a ∧ R (.goto l) N σ w
  | .ret, a, w => ∃ N σ, Fits N σ a ∧ R .ret N σ w
def CW (P : Program) (N : NN) (c : Code) (R : jZ) (σ : Env) (w : World) : Prop := ∀ a, Fits N σ a → c.wp P (toQ R) a w
def qM (K : NN → Env → World → Prop) (R : jZ) : jZ
  | .normal, N, σ, w => K N σ w
  | .exit i, N, σ, w => R (.exit i) N σ w
  | .goto l, N, σ, w => R (.goto l) N σ w
  | .ret, N, σ, w => R .ret N σ w
  | .panic c, N, σ, w => R (.panic c) N σ w
  | .outgrown, N, σ, w => R .outgrown N σ w
def xB (id : Nat) (R : jZ) : jZ
  | .exit i, N, σ, w => cond (Nat.beq i id) (R .normal N σ w) (R (.exit i) N σ w)
  | .normal, N, σ, w => R .normal N σ w
  | .goto l, N, σ, w => R (.goto l) N σ w
  | .ret, N, σ, w => R .ret N σ w
  | .panic c, N, σ, w => R (.panic c) N σ w
  | .outgrown, N, σ, w => R .outgrown N σ w
section
variable {P : Program} {N : NN} {R : jZ} {σ : Env} {w : World}
theorem aM {x y : Code} (h : CW P N x (qM (fun N σ w => CW P N y R σ w) R) σ w) : CW P N (.seq x y) R σ w := by
  intro a ha
  refine wp_seq (wp_mono (h a ha) ?_)
  intro e a' w' hq
  cases e with
  | normal => obtain ⟨N', σ', hf, hk⟩ := hq; exact hk a' hf
  | exit i => exact hq
  | goto l => exact hq
  | ret => exact hq
  | panic c => exact hq
  | outgrown => exact hq
theorem bK {id : Nat} {c : Code} (h : CW P N c (xB id R) σ w) : CW P N (.block id c) R σ w := by
  intro a ha
  refine wp_block (wp_mono (h a ha) ?_)
  intro e a' w' hq
  cases e with
  | normal => exact hq
  | exit i =>
    obtain ⟨N', σ', hf, hk⟩ := hq
    simp only [xB] at hk
    simp only [Exit.inBlock]
    cases hb : Nat.beq i id with
    | true =>
      rw [hb] at hk
      rw [if_pos (Nat.eq_of_beq_eq_true hb)]
      exact ⟨N', σ', hf, hk⟩
    | false =>
      rw [hb] at hk
      rw [if_neg (Nat.ne_of_beq_eq_false hb)]
      exact ⟨N', σ', hf, hk⟩
  | goto l => exact hq
  | ret => exact hq
  | panic c => exact hq
  | outgrown => exact hq
theorem aN (h : R .normal N σ w) : CW P N .skip R σ w := fun _ ha => wp_skip ⟨N, σ, ha, h⟩
theorem cW {i : Nat} (h : R (.exit i) N σ w) : CW P N (.exit i) R σ w := fun _ ha => wp_exit ⟨N, σ, ha, h⟩
theorem aK (h : R .ret N σ w) : CW P N .ret R σ w := fun _ ha => wp_ret ⟨N, σ, ha, h⟩
theorem aZ {c : Operand} {x y : Code} {p : Prop} [Decidable p] (hc : σ.ev c = some (.bool (decide p))) (ht : p → CW P N x R σ w) (hf : ¬ p → CW P N y R σ w) : CW P N (.cond c x y) R σ w := by
  intro a ha
  refine wp_cond_split (ha.agrees c _ hc) (fun h => ht (of_decide_eq_true h) a ha) (fun h => hf (of_decide_eq_false h) a ha)
theorem eO {c : Operand} {x y : Code} {b : Bool} (hc : σ.ev c = some (.bool b)) (ht : b = true → CW P N x R σ w) (hf : b = false → CW P N y R σ w) : CW P N (.cond c x y) R σ w := by
  intro a ha
  exact wp_cond_split (ha.agrees c _ hc) (fun h => ht h a ha) (fun h => hf h a ha)
theorem cZ {c : Operand} {x y : Code} (hc : σ.ev c = some (.bool true)) (h : CW P N x R σ w) : CW P N (.cond c x y) R σ w :=
  fun a ha => wp_cond_true (ha.agrees c _ hc) (h a ha)
theorem cF {c : Operand} {x y : Code} (hc : σ.ev c = some (.bool false)) (h : CW P N y R σ w) : CW P N (.cond c x y) R σ w :=
  fun a ha => wp_cond_false (ha.agrees c _ hc) (h a ha)
theorem dL {c : Code} {α : Type} (x0 : α) (M : α → Env) (C : Env) (Φ : α → World → Prop) (μ : α → Nat) (hM : Sub (M x0) σ) (hC : Sub C σ) (h0 : Φ x0 w)
    (round : ∀ x w, Φ x w → CW P N c (qM (fun N' σ' w' => N' = N ∧ ∃ x', μ x' < μ x ∧ Sub (M x') σ' ∧ Sub C σ' ∧ Φ x' w') R) (M x ++ C) w) : CW P N (.loop c) R σ w := by
  intro a ha
  refine wp_loop_ghost (fun n a w => ∃ x, μ x = n ∧ Fits N (M x ++ C) a ∧ Φ x w) (μ x0) ⟨x0, rfl, Fits.app hM hC ha ha, h0⟩ ?_
  rintro n a w ⟨x, rfl, hf, hx⟩
  refine wp_mono (round x w hx a hf) ?_
  intro e a' w' hq
  cases e with
  | normal =>
    obtain ⟨N', σ', hf', rfl, x', hlt, hM', hC', hΦ⟩ := hq
    exact ⟨μ x', hlt, x', rfl, Fits.app hM' hC' hf' hf', hΦ⟩
  | exit i => exact hq
  | goto l => exact hq
  | ret => exact hq
  | panic c => exact hq
  | outgrown => exact hq
theorem aC {K : NN → Env → World → Prop} (h : K N σ w) : qM K R .normal N σ w := h
theorem aY {K : Env → World → Prop} (h : K σ w) : qM (fun N' σ' w' => N' = N ∧ K σ' w') R .normal N σ w := ⟨rfl, h⟩
theorem aQ {id : Nat} (h : R .normal N σ w) : xB id R .normal N σ w := h
theorem aE {K : NN → Env → World → Prop} (h : R .ret N σ w) : qM K R .ret N σ w := h
theorem aO {id : Nat} (h : R .ret N σ w) : xB id R .ret N σ w := h
theorem bS {K : NN → Env → World → Prop} {i : Nat} (h : R (.exit i) N σ w) : qM K R (.exit i) N σ w := h
theorem cV {i : Nat} (h : R .normal N σ w) : xB i R (.exit i) N σ w := by
  show cond (Nat.beq i i) _ _
  rw [show Nat.beq i i = true from Nat.beq_refl i]
  exact h
theorem yV {i id : Nat} (hne : Nat.beq i id = false) (h : R (.exit i) N σ w) : xB id R (.exit i) N σ w := by
  show cond (Nat.beq i id) _ _
  rw [hne]
  exact h
end
section
variable {P : Program} {σ : Env} {w : World}
def Ret (Φ : Value → World → Prop) : Ending → World → Prop := fun e w' => ∃ v, e = .returned v ∧ Φ v w'
def pP (P : Program) (fn : Func) (E : Ending → World → Prop) : jZ
  | .normal, N, σ, w => N.2 = [] ∧ ∀ a, Fits (a.tmps.size, a.defers) σ a → ∃ v, (results fn a.tmps).run P w = .ok v w ∧ E (.returned v) w
  | .ret, N, σ, w => N.2 = [] ∧ ∀ a, Fits (a.tmps.size, a.defers) σ a → ∃ v, (results fn a.tmps).run P w = .ok v w ∧ E (.returned v) w
  | .panic chain, N, _, w => N.2 = [] ∧ E (.panicked chain) w
  | .outgrown, _, _, w => E .outgrown w
  | .exit _, _, _, _ => False
  | .goto _, _, _, _ => False
def pG (k : Nat) : List Value → Env
  | [] => []
  | v :: r => (k, v) :: pG (k + 1) r
theorem rC : ∀ (l : List Value) (k t : Nat) (v : Value), (pG k l).get t = some v → k ≤ t ∧ l[t - k]? = some v := by
  intro l
  induction l with
  | nil => intro k t v h; cases h
  | cons u r ih =>
    intro k t v h
    simp only [pG, Env.get] at h
    cases hb : Nat.beq k t with
    | true =>
      rw [hb] at h
      have : k = t := Nat.eq_of_beq_eq_true hb
      subst this
      simp only [cond_true, Option.some.injEq] at h
      exact ⟨Nat.le_refl _, by simp [h]⟩
    | false =>
      rw [hb] at h
      have hne : k ≠ t := Nat.ne_of_beq_eq_false hb
      obtain ⟨h1, h2⟩ := ih (k + 1) t v h
      refine ⟨by omega, ?_⟩
      rw [show t - k = (t - (k + 1)) + 1 from by omega]
      simpa using h2
theorem bE {f : FuncId} {fn : Func} {c : Code} {args : List Value} {E : Ending → World → Prop} {N : Nat}
    (hf : P.funcs[f]? = some fn) (hb : fn.body = some c) (hN : fn.ntmps = N) (hle' : Nat.ble args.length N = true)
    (h : CW P (N, []) c (pP P fn E) (pG 0 args) w) : Calls P f args.toArray w E := by
  have hle : args.length ≤ N := Nat.le_of_ble_eq_true hle'; refine calls_of_wp hf hb (wp_mono (h _ ⟨?_, rfl, ?_⟩) ?_)
  · simp [hN]; omega
  · intro t v hv
    obtain ⟨_, h2⟩ := rC args 0 t v hv; simp only [Nat.sub_zero] at h2; have hlt : t < args.length := (List.getElem?_eq_some_iff.1 h2).1
    have h3 : args[t] = v := by rw [List.getElem?_eq_getElem hlt] at h2; exact Option.some.inj h2
    simp [Array.getElem?_append, hlt, h3]
  · intro e a' w' hq
    cases e with
    | normal => obtain ⟨N', σ', hf', hn, hk⟩ := hq; obtain ⟨v, h1, h2⟩ := hk a' (by rw [hf'.1, hf'.2.1]; exact hf'); exact ⟨hf'.2.1.trans hn, v, h1, h2⟩
    | ret => obtain ⟨N', σ', hf', hn, hk⟩ := hq; obtain ⟨v, h1, h2⟩ := hk a' (by rw [hf'.1, hf'.2.1]; exact hf'); exact ⟨hf'.2.1.trans hn, v, h1, h2⟩
    | panic ch => obtain ⟨N', σ', hf, hn, hk⟩ := hq; exact ⟨hf.2.1.trans hn, hk⟩
    | outgrown => obtain ⟨_, hk⟩ := hq; exact hk
    | exit i => obtain ⟨_, _, _, hk⟩ := hq; exact hk
    | goto l => obtain ⟨_, _, _, hk⟩ := hq; exact hk
theorem xA {n : Nat} {fn : Func} {Φ : Value → World → Prop} (hr : fn.results = #[]) (h : Φ (.tuple #[]) w) : pP P fn (Ret Φ) .ret (n, []) σ w :=
  ⟨rfl, fun _ _ => ⟨.tuple #[], results_none hr _ _ _, _, rfl, h⟩⟩
theorem dD {n : Nat} {fn : Func} {Φ : Value → World → Prop} (hr : fn.results = #[]) (h : Φ (.tuple #[]) w) : pP P fn (Ret Φ) .normal (n, []) σ w :=
  ⟨rfl, fun _ _ => ⟨.tuple #[], results_none hr _ _ _, _, rfl, h⟩⟩
theorem QY {n : Nat} {fn : Func} {t : Tmp} {v : Value} {Φ : Value → World → Prop} (hr : fn.results = #[.tmp t]) (hv : σ.get t = some v) (h : Φ v w) : pP P fn (Ret Φ) .ret (n, []) σ w :=
  ⟨rfl, fun a ha => ⟨v, by rw [results_tmp hr, ha.2.2 t v hv], _, rfl, h⟩⟩
theorem br1 {n : Nat} {fn : Func} {t : Tmp} {v : Value} {Φ : Value → World → Prop} (h : Φ v w) (hr : fn.results = #[.tmp t] := by rfl) (hv : σ.get t = some v := by rfl) : pP P fn (Ret Φ) .ret (n, []) σ w := QY hr hv h
theorem cE {n : Nat} {fn : Func} {t u : Tmp} {v v' : Value} {Φ : Value → World → Prop} (hr : fn.results = #[.tmp t, .tmp u]) (hv : σ.get t = some v) (hv' : σ.get u = some v') (h : Φ (.tuple #[v, v']) w) : pP P fn (Ret Φ) .ret (n, []) σ w :=
  ⟨rfl, fun a ha => ⟨.tuple #[v, v'], by rw [results_tmp2 hr, ha.2.2 t v hv, ha.2.2 u v' hv'], _, rfl, h⟩⟩
end
structure Evo (X : List Nat) (w w' : World) : Prop where
  os : w'.os = w.os
  tape : w'.tape = w.tape
  output : w'.output = w.output
  size : w.heap.size ≤ w'.heap.size
  block : ∀ b, b < w.heap.size → b ∉ X → w'.heap[b]? = w.heap[b]?
theorem Evo.refl (X : List Nat) (w : World) : Evo X w w := ⟨rfl, rfl, rfl, Nat.le_refl _, fun _ _ _ => rfl⟩
theorem Evo.trans {X : List Nat} {a b c : World} (h : Evo X a b) (k : Evo X b c) : Evo X a c :=
  ⟨k.os.trans h.os, k.tape.trans h.tape, k.output.trans h.output, Nat.le_trans h.size k.size, fun i hi hx => (k.block i (Nat.lt_of_lt_of_le hi h.size) hx).trans (h.block i hi hx)⟩
theorem Evo.mono {X Y : List Nat} {w w' : World} (h : Evo X w w') (hxy : ∀ b, b ∈ X → b ∈ Y) : Evo Y w w' :=
  ⟨h.os, h.tape, h.output, h.size, fun b hb hy => h.block b hb (fun hx => hy (hxy b hx))⟩
theorem Evo.any {w w' : World} (h : Evo [] w w') (Y : List Nat) : Evo Y w w' := h.mono (fun _ hb => by cases hb)
theorem Evo.step {X Y : List Nat} {a b c : World} (h : Evo X a b) (k : Evo Y b c) (hy : ∀ y, y ∈ Y → y ∈ X ∨ a.heap.size ≤ y) : Evo X a c :=
  ⟨k.os.trans h.os, k.tape.trans h.tape, k.output.trans h.output, Nat.le_trans h.size k.size, fun i hi hx =>
    (k.block i (Nat.lt_of_lt_of_le hi h.size) (fun hiy => by rcases hy i hiy with h1 | h1 <;> first | exact hx h1 | omega)).trans (h.block i hi hx)⟩
theorem Evo.then {a b c : World} {X : List Nat} (h : Evo X a b) (k : Evo [] b c) : Evo X a c := h.step k (fun _ hy => by cases hy)
theorem Evo.blk {X : List Nat} {w w' : World} (h : Evo X w w') {b : Nat} {o : Obj} (hb : w.heap[b]? = some o) (hx : b ∉ X) : w'.heap[b]? = some o := by
  rw [h.block b (Array.getElem?_eq_some_iff.1 hb).1 hx]; exact hb
theorem Evo.blk0 {w w' : World} (h : Evo [] w w') {b : Nat} {o : Obj} (hb : w.heap[b]? = some o) : w'.heap[b]? = some o := h.blk hb (fun h => by cases h)
theorem Evo.cell {X : List Nat} {w w' : World} (h : Evo X w w') {a : Addr} {v : Value} (hc : w.cell? a = some v) (hx : a.block ∉ X) : w'.cell? a = some v :=
  (World.cell?_of_block (h.block a.block (World.block_lt_of_cell? w a hc) hx)).trans hc
theorem fF {w : World} {b : Nat} {o : Obj} (hb : w.heap[b]? = some o) : b < w.heap.size := (Array.getElem?_eq_some_iff.1 hb).1
theorem Evo.below {w w' : World} (h : Evo [] w w') : RowKit.Below w.heap.size w w' := ⟨h.os, h.tape, h.output, h.size, fun k hk => h.block k hk (fun h => by cases h)⟩
theorem WM (w : World) : Evo [] w { w with drawn := w.drawn + 1 } := ⟨rfl, rfl, rfl, Nat.le_refl _, fun _ _ _ => rfl⟩
theorem qR (w : World) (o : Obj) : Evo [] w (w.alloc o) := ⟨rfl, rfl, rfl, by simp, fun k hk _ => RowKit.Below.heap_alloc w o k hk⟩
theorem xN (w : World) (a : Addr) (v : Value) : Evo [a.block] w (w.setCell a v) :=
  ⟨rfl, rfl, rfl, by simp, fun k _ hx => RowKit.Below.heap_setCell _ _ _ _ (fun e => hx (by simp [e]))⟩
def nU (P : Program) (t : TypeId) : Option Bool := (P.underlying t).map fun | .struct _ | .array _ _ => true | _ => false
def iJ (P : Program) (t : TypeId) : Option Nat := (P.info? t).map (·.size)
def eU (P : Program) (s : TypeId) (i : Nat) : Option Nat :=
  match P.underlying s with
  | some (.struct fs) => match fs[i]? with
    | some f => match P.info? f.type with
      | some n => if n.size = 0 then none else some f.offset
      | none => none
    | none => none
  | _ => none
def vE (P : Program) (t : TypeId) : Option Nat :=
  match P.underlying t with
  | some (.slice e) => (P.info? e).map (·.size)
  | _ => none
def dW (P : Program) (f : FuncId) : Prop := ∃ fn, P.funcs[f]? = some fn ∧ (fn.name == "runtime.NumGoroutine") = false ∧ fn.body.isNone = false
def Ex (P : Program) (σ : Env) (o : Oper) (w : World) (r : Value) (w' : World) : Prop := ∀ ρ, HC σ ρ → (execOp ρ o).run P w = .ok (.value r) w'
def ExS (P : Program) (σ : Env) (o : Oper) (w : World) (w' : World) : Prop := ∀ ρ, HC σ ρ → (execOp ρ o).run P w = .ok .skip w'
def WL (P : Program) (N : NN) (ops : Array Oper) (R : jZ) (l : List Oper) (σ : Env) (w : World) : Prop := ∀ a, Fits N σ a → wpList P ops (toQ R) l a w
section
variable {P : Program} {N : NN} {R : jZ} {σ : Env} {w w' : World} {ops : Array Oper} {rest : List Oper} {d : Nat} {op : Op} {T : TypeId} {pos : String} {after : Array Edge}
theorem aF {id : Nat} {l : List Oper} (h : WL P N l.toArray R l σ w) : CW P N (.region id l.toArray false) R σ w := fun a ha => wp_region_lit (h a ha)
theorem aR (h : R .normal N σ w) : WL P N ops R [] σ w := fun _ ha => wpList_nil ⟨N, σ, ha, h⟩
theorem iT {r : Value} (hd : Nat.blt d N.1 = true) (hx : Ex P σ ⟨some d, op, T, pos, after, none⟩ w r w') (h : WL P N ops R rest ((d, r) :: σ) w') :
    WL P N ops R (⟨some d, op, T, pos, after, none⟩ :: rest) σ w := fun a ha => wpList_plain rfl fun K hK => by
  unfold Oper.wp
  rw [hx a.eval ha.agrees]
  exact hK _ _ (h _ (ha.put (of_decide_eq_true (by simpa using hd)) r))
theorem aB {r : Value} (hx : Ex P σ ⟨some d, op, T, pos, after, none⟩ w r w') (h : WL P N ops R rest ((d, r) :: σ) w') (hd : Nat.blt d N.1 = true := by rfl) : WL P N ops R (⟨some d, op, T, pos, after, none⟩ :: rest) σ w := iT hd hx h
theorem wl_skip (hx : ExS P σ ⟨none, op, T, pos, after, none⟩ w w') (h : WL P N ops R rest σ w') :
    WL P N ops R (⟨none, op, T, pos, after, none⟩ :: rest) σ w := fun a ha => wpList_plain rfl fun K hK => by
  unfold Oper.wp
  rw [hx a.eval ha.agrees]
  exact hK _ _ (h _ ha)
theorem wl_go {dst : Option Nat} {j : Nat} {pol : Bool} {oj : Oper} {t : Nat} (hj : ops[j]? = some oj) (ht : oj.dst = some t) (hv : σ.get t = some (.bool pol)) (hN : Nat.blt t N.1 = true)
    (h : WL P N ops R (⟨dst, op, T, pos, after, none⟩ :: rest) σ w) : WL P N ops R (⟨dst, op, T, pos, after, some (j, pol)⟩ :: rest) σ w := fun a ha => by
  have h1 := h a ha
  have hg : Region.wanted (⟨dst, op, T, pos, after, some (j, pol)⟩ : Oper) (yielded ops a.tmps) = true := by
    have hs : t < a.tmps.size := by rw [ha.1]; exact of_decide_eq_true (by simpa using hN)
    have := ha.2.2 t _ hv
    simp only [Array.getD_eq_getD_getElem?, Array.getElem?_eq_getElem hs, Option.getD_some] at this
    simp [Region.wanted, yielded, hj, ht, Array.getElem?_eq_getElem hs, this]
  unfold wpList at h1 ⊢
  rw [if_pos hg]
  rw [if_pos (by simp [Region.wanted])] at h1
  exact h1
theorem wl_no {j : Nat} {pol b : Bool} {oj : Oper} {t : Nat} (hj : ops[j]? = some oj) (ht : oj.dst = some t) (hv : σ.get t = some (.bool b)) (hb : b = !pol) (hN : Nat.blt t N.1 = true) (hd : Nat.blt d N.1 = true)
    (h : WL P N ops R rest ((d, undef) :: σ) w) : WL P N ops R (⟨some d, op, T, pos, after, some (j, pol)⟩ :: rest) σ w := fun a ha => by
  have hg : Region.wanted (⟨some d, op, T, pos, after, some (j, pol)⟩ : Oper) (yielded ops a.tmps) = false := by
    have hs : t < a.tmps.size := by rw [ha.1]; exact of_decide_eq_true (by simpa using hN)
    have := ha.2.2 t _ hv
    simp only [Array.getD_eq_getD_getElem?, Array.getElem?_eq_getElem hs, Option.getD_some] at this
    subst hb
    cases pol <;> simp [Region.wanted, yielded, hj, ht, Array.getElem?_eq_getElem hs, this]
  unfold wpList
  rw [if_neg (by rw [hg]; simp)]
  exact h _ (ha.put (of_decide_eq_true (by simpa using hd)) _)
theorem bH {l : List Oper} {t : Nat} {p : Prop} [Decidable p] (hv : σ.get t = some (.bool (decide p))) (ht : p → WL P N ops R l ((t, .bool true) :: σ) w) (hf : ¬ p → WL P N ops R l ((t, .bool false) :: σ) w) : WL P N ops R l σ w := by
  intro a ha
  by_cases h : p
  · refine ht h a ⟨ha.1, ha.2.1, fun u v hu => ?_⟩
    simp only [Env.get] at hu
    cases hb : Nat.beq t u with
    | true =>
      rw [hb] at hu
      have : t = u := Nat.eq_of_beq_eq_true hb
      subst this
      simp only [cond_true, Option.some.injEq] at hu
      rw [← hu, ha.2.2 t _ hv, decide_eq_true h]
    | false => rw [hb] at hu; exact ha.2.2 u v hu
  · refine hf h a ⟨ha.1, ha.2.1, fun u v hu => ?_⟩
    simp only [Env.get] at hu
    cases hb : Nat.beq t u with
    | true =>
      rw [hb] at hu
      have : t = u := Nat.eq_of_beq_eq_true hb
      subst this
      simp only [cond_true, Option.some.injEq] at hu
      rw [← hu, ha.2.2 t _ hv, decide_eq_false h]
    | false => rw [hb] at hu; exact ha.2.2 u v hu
theorem nD {l : List Oper} {t : Nat} {b : Bool} (hv : σ.get t = some (.bool b)) (ht : b = true → WL P N ops R l ((t, .bool true) :: σ) w) (hf : b = false → WL P N ops R l ((t, .bool false) :: σ) w) : WL P N ops R l σ w := by
  have hv' : σ.get t = some (.bool (decide (b = true))) := by rw [hv]; cases b <;> rfl
  exact bH hv' ht (fun h => hf (by simpa using h))
theorem wl_call {dst : Option Nat} {f : FuncId} {xs : Array Operand} {ats : Array TypeId} {vs : List Value} {Φ : Value → World → Prop} (hgo : dW P f) (hxs : xs.toList.map σ.ev = vs.map some)
    (hc : Calls P f vs.toArray w (Ret Φ)) (hd : ∀ k, dst = some k → Nat.blt k N.1 = true)
    (h : ∀ v w', Φ v w' → WL P N ops R rest (match dst with | some k => (k, v) :: σ | none => σ) w') :
    WL P N ops R (⟨dst, .call ⟨.value (.func f), xs, ats⟩, T, pos, after, none⟩ :: rest) σ w := fun a ha => wpList_plain rfl fun K hK => by
  have hargs : xs.map a.eval = vs.toArray := by
    apply Array.ext'
    rw [Array.toList_map]
    have hag := ha.agrees
    clear hK hc h ha
    generalize xs.toList = l at *
    clear xs
    revert vs
    induction l with
    | nil => intro vs hxs; cases vs with | nil => rfl | cons _ _ => simp at hxs
    | cons x l ih =>
      intro vs hxs
      cases vs with
      | nil => simp at hxs
      | cons v vs =>
        simp only [List.map_cons, List.cons.injEq] at hxs
        simp only [List.map_cons, hag x v hxs.1]
        exact congrArg _ (ih hxs.2)
  obtain ⟨fn, hf, hn, hbd⟩ := hgo
  unfold Oper.wp
  have hrun : (execOp a.eval ⟨dst, .call ⟨.value (.func f), xs, ats⟩, T, pos, after, none⟩).run P w = .ok (.enter f vs.toArray) w := by
    have hn' : ¬ fn.name = "runtime.NumGoroutine" := by simpa using hn
    have hb' : ¬ fn.body = none := by intro hh; simp [hh] at hbd
    simp only [execOp, resolve, hargs]
    simp [Act.eval, Deferred.ofValue, invoke, callFunc, hf, hn', hb']
  rw [hrun]
  show Calls P f vs.toArray w _
  refine hc.mono ?_
  rintro e w' ⟨v, rfl, hΦ⟩
  cases dst with
  | none => exact hK _ _ (h v w' hΦ a ha)
  | some k => exact hK _ _ (h v w' hΦ _ (ha.put (of_decide_eq_true (by simpa using hd k rfl)) v))
end
section
variable {P : Program} {σ : Env} {w : World} {dst : Option Nat} {T : TypeId} {pos : String} {after : Array Edge} {g : Option (Nat × Bool)}
theorem bC {x : Operand} {v : Value} (hx : σ.ev x = some v) : Ex P σ ⟨dst, .move x, T, pos, after, g⟩ w v w := fun ρ h => by
  simp [execOp, h x v hx]
theorem cR {x : Operand} {v : Value} (hx : σ.ev x = some v) : Ex P σ ⟨dst, .assign x, T, pos, after, g⟩ w v w := fun ρ h => by
  simp [execOp, h x v hx]
theorem eP {c x y : Operand} {v : Value} (hc : σ.ev c = some (.bool true)) (hx : σ.ev x = some v) : Ex P σ ⟨dst, .pick c x y, T, pos, after, g⟩ w v w := fun ρ h => by
  simp [execOp, h c _ hc, h x v hx, asBool]
theorem eZ {c x y : Operand} {v : Value} (hc : σ.ev c = some (.bool false)) (hx : σ.ev y = some v) : Ex P σ ⟨dst, .pick c x y, T, pos, after, g⟩ w v w := fun ρ h => by
  simp [execOp, h c _ hc, h y v hx, asBool]
theorem mS {x : Operand} {t : TypeId} {p : Prop} [Decidable p] (hx : σ.ev x = some (.bool (decide p))) : Ex P σ ⟨dst, .unOp .not t x, T, pos, after, g⟩ w (.bool (decide (¬ p))) w := fun ρ h => by
  simp [execOp, h x _ hx, Op.unary]
theorem fV {x : Operand} {t : TypeId} {b : Bool} (hx : σ.ev x = some (.bool b)) : Ex P σ ⟨dst, .unOp .not t x, T, pos, after, g⟩ w (.bool (!b)) w := fun ρ h => by
  simp [execOp, h x _ hx, Op.unary]
theorem rF {bop : BinOp} {x y : Operand} {t t' : TypeId} {k : IntKind} {m n : Int} {v : Value} (hop : ∀ w : World, (Go.binOp bop t (.int k m) (.int k n)).run P w = .ok v w)
    (hx : σ.ev x = some (.int k m)) (hy : σ.ev y = some (.int k n)) : Ex P σ ⟨dst, .binOp bop t x y t', T, pos, after, g⟩ w v w := fun ρ h => by
  simp only [execOp, h x _ hx, h y _ hy]
  cases bop <;> simp [eqGuard, hop]
theorem uG {k : IntKind} {n : Int} (h : k.min ≤ n) (h' : n ≤ k.max) : k.wrap n = n := by
  cases k <;> simp only [IntKind.wrap, IntKind.min, IntKind.max, IntKind.bits, IntKind.signed] at * <;> simp at * <;> (try split) <;> omega
theorem WI {x y : Operand} {t t' : TypeId} {k : IntKind} {m n : Int} (hx : σ.ev x = some (.int k m)) (hy : σ.ev y = some (.int k n)) (h1 : k.min ≤ m + n) (h2 : m + n ≤ k.max) :
    Ex P σ ⟨dst, .binOp .add t x y t', T, pos, after, g⟩ w (.int k (m + n)) w := rF (fun w => by simp [Go.binOp, Op.intArith, uG h1 h2]) hx hy
theorem MB {x y : Operand} {t t' : TypeId} {k : IntKind} {m n : Int} (hx : σ.ev x = some (.int k m)) (hy : σ.ev y = some (.int k n)) (h1 : k.min ≤ m - n) (h2 : m - n ≤ k.max) :
    Ex P σ ⟨dst, .binOp .sub t x y t', T, pos, after, g⟩ w (.int k (m - n)) w := rF (fun w => by simp [Go.binOp, Op.intArith, uG h1 h2]) hx hy
theorem ex_mul {x y : Operand} {t t' : TypeId} {k : IntKind} {m n : Int} (hx : σ.ev x = some (.int k m)) (hy : σ.ev y = some (.int k n)) (h1 : k.min ≤ m * n) (h2 : m * n ≤ k.max) :
    Ex P σ ⟨dst, .binOp .mul t x y t', T, pos, after, g⟩ w (.int k (m * n)) w := rF (fun w => by simp [Go.binOp, Op.intArith, uG h1 h2]) hx hy
theorem kK {x y : Operand} {t t' : TypeId} {k : IntKind} {m n : Int} (hx : σ.ev x = some (.int k m)) (hy : σ.ev y = some (.int k n)) :
    Ex P σ ⟨dst, .binOp .eql t x y t', T, pos, after, g⟩ w (.bool (decide (m = n))) w := rF (fun w => by simp only [Go.binOp, Op.intCmp]; simp; rw [Bool.eq_iff_iff]; simp) hx hy
theorem fE {x y : Operand} {t t' : TypeId} {k : IntKind} {m n : Int} (hx : σ.ev x = some (.int k m)) (hy : σ.ev y = some (.int k n)) :
    Ex P σ ⟨dst, .binOp .neq t x y t', T, pos, after, g⟩ w (.bool (decide (m ≠ n))) w := rF (fun w => by simp only [Go.binOp, Op.intCmp]; simp; rw [Bool.eq_iff_iff]; simp) hx hy
theorem dA {x y : Operand} {t t' : TypeId} {k : IntKind} {m n : Int} (hx : σ.ev x = some (.int k m)) (hy : σ.ev y = some (.int k n)) :
    Ex P σ ⟨dst, .binOp .lss t x y t', T, pos, after, g⟩ w (.bool (decide (m < n))) w := rF (fun w => by simp [Go.binOp, Op.intCmp]) hx hy
theorem dM {x y : Operand} {t t' : TypeId} {k : IntKind} {m n : Int} (hx : σ.ev x = some (.int k m)) (hy : σ.ev y = some (.int k n)) :
    Ex P σ ⟨dst, .binOp .leq t x y t', T, pos, after, g⟩ w (.bool (decide (m ≤ n))) w := rF (fun w => by simp [Go.binOp, Op.intCmp]) hx hy
theorem eW {x y : Operand} {t t' : TypeId} {k : IntKind} {m n : Int} (hx : σ.ev x = some (.int k m)) (hy : σ.ev y = some (.int k n)) :
    Ex P σ ⟨dst, .binOp .gtr t x y t', T, pos, after, g⟩ w (.bool (decide (n < m))) w := rF (fun w => by simp [Go.binOp, Op.intCmp]) hx hy
theorem dQ {x y : Operand} {t t' : TypeId} {k : IntKind} {m n : Int} (hx : σ.ev x = some (.int k m)) (hy : σ.ev y = some (.int k n)) :
    Ex P σ ⟨dst, .binOp .geq t x y t', T, pos, after, g⟩ w (.bool (decide (n ≤ m))) w := rF (fun w => by simp [Go.binOp, Op.intCmp]) hx hy
theorem aI {x y : Operand} {t t' : TypeId} {m n : Int} (hx : σ.ev x = some (.int .i64 m)) (hy : σ.ev y = some (.int .i64 n)) (h1 : -9223372036854775808 ≤ m + n) (h2 : m + n ≤ 9223372036854775807) :
    Ex P σ ⟨dst, .binOp .add t x y t', T, pos, after, g⟩ w (.int .i64 (m + n)) w := WI hx hy h1 h2
theorem dX {x y : Operand} {t t' : TypeId} {m n : Int} (hx : σ.ev x = some (.int .i64 m)) (hy : σ.ev y = some (.int .i64 n)) (h1 : -9223372036854775808 ≤ m - n) (h2 : m - n ≤ 9223372036854775807) :
    Ex P σ ⟨dst, .binOp .sub t x y t', T, pos, after, g⟩ w (.int .i64 (m - n)) w := MB hx hy h1 h2
theorem lW {x y : Operand} {t t' : TypeId} {m n : Int} (hx : σ.ev x = some (.int .i64 m)) (hy : σ.ev y = some (.int .i64 n)) (h1 : -9223372036854775808 ≤ m * n) (h2 : m * n ≤ 9223372036854775807) :
    Ex P σ ⟨dst, .binOp .mul t x y t', T, pos, after, g⟩ w (.int .i64 (m * n)) w := ex_mul hx hy h1 h2
theorem fA {x y : Operand} {t t' : TypeId} {m n : Int} (hx : σ.ev x = some (.int .i32 m)) (hy : σ.ev y = some (.int .i32 n)) (h1 : -2147483648 ≤ m + n) (h2 : m + n ≤ 2147483647) :
    Ex P σ ⟨dst, .binOp .add t x y t', T, pos, after, g⟩ w (.int .i32 (m + n)) w := WI hx hy h1 h2
theorem dY {x y : Operand} {t t' : TypeId} {m n : Int} (hx : σ.ev x = some (.int .i32 m)) (hy : σ.ev y = some (.int .i32 n)) (h1 : -2147483648 ≤ m - n) (h2 : m - n ≤ 2147483647) :
    Ex P σ ⟨dst, .binOp .sub t x y t', T, pos, after, g⟩ w (.int .i32 (m - n)) w := MB hx hy h1 h2
theorem mK {x y : Operand} {t t' : TypeId} {m n : Int} (hx : σ.ev x = some (.int .u8 m)) (hy : σ.ev y = some (.int .u8 n)) (h1 : 0 ≤ m - n) (h2 : m - n ≤ 255) :
    Ex P σ ⟨dst, .binOp .sub t x y t', T, pos, after, g⟩ w (.int .u8 (m - n)) w := MB hx hy h1 h2
theorem bM {x : Operand} {ats : Array TypeId} {t e : TypeId} {a : Option Addr} {n c : Nat} (hx : σ.ev x = some (.slice a n c)) (ht : P.underlying t = some (.slice e)) (hats : ats = #[t]) :
    Ex P σ ⟨dst, .call ⟨.builtin .len, #[x], ats⟩, T, pos, after, g⟩ w (.int .i64 n) w := fun ρ h => by
  subst hats
  simp [execOp, resolve, h x _ hx, invoke, builtin, Builtin.len_, run_underlying ht, goInt]
theorem cQ {x : Operand} {ats : Array TypeId} {t : TypeId} {s : ByteArray} (hx : σ.ev x = some (.string s)) (ht : P.underlying t = some .string) (hats : ats = #[t]) :
    Ex P σ ⟨dst, .call ⟨.builtin .len, #[x], ats⟩, T, pos, after, g⟩ w (.int .i64 s.size) w := fun ρ h => by
  subst hats
  simp [execOp, resolve, h x _ hx, invoke, builtin, Builtin.len_, run_underlying ht, goInt]
theorem aH {x : Operand} {a : Addr} (hx : σ.ev x = some (.pointer (some a))) : Ex P σ ⟨dst, .nilCheck x, T, pos, after, g⟩ w (.pointer (some a)) w := fun ρ h => by
  simp [execOp, h x _ hx]
theorem aD {x : Operand} {s : TypeId} {i off b o : Nat} (hx : σ.ev x = some (.pointer (some ⟨b, o, none⟩))) (hf : eU P s i = some off) :
    Ex P σ ⟨dst, .fieldAddr s x i, T, pos, after, g⟩ w (.pointer (some ⟨b, o + off, none⟩)) w := fun ρ h => by
  simp only [eU] at hf
  split at hf <;> try cases hf
  rename_i fs hu
  split at hf <;> try cases hf
  rename_i f hfs
  split at hf <;> try cases hf
  rename_i n hn
  split at hf <;> try cases hf
  rename_i hsz
  have ha : (⟨b, o, none⟩ : Addr).add f.offset = ⟨b, o + f.offset, none⟩ := by unfold Addr.add; split <;> simp_all
  simp [execOp, h x _ hx, Instr.fieldAt, run_underlying hu, hfs, Instr.sureAddr, fieldPlace, sizeOf, typeInfo, hn, hsz, ha]
theorem iE {x i : Operand} {t : TypeId} {k : IntKind} {n sz b o len c : Nat} (hx : σ.ev x = some (.slice (some ⟨b, o, none⟩) len c)) (hi : σ.ev i = some (.int k n)) (he : vE P t = some sz) (hlt : n < len) :
    Ex P σ ⟨dst, .indexAddr t x i, T, pos, after, g⟩ w (.pointer (some ⟨b, o + n * sz, none⟩)) w := fun ρ h => by
  simp only [vE] at he
  split at he <;> try cases he
  rename_i e hu
  obtain ⟨inf, hin, hsz⟩ := Option.map_eq_some_iff.1 he
  have ha : (⟨b, o, none⟩ : Addr).add (n * sz) = ⟨b, o + n * sz, none⟩ := by unfold Addr.add; split <;> simp_all
  simp [execOp, h x _ hx, h i _ hi, Instr.indexAt, asIntOf, run_underlying hu, sizeOf, typeInfo, hin, hsz, hlt, ha]
theorem pB {t : TypeId} {b : Bool} (ht : nU P t = some b) (w : World) : (isAgg t).run P w = .ok b w := by
  obtain ⟨d, hd, hb⟩ := Option.map_eq_some_iff.1 ht
  subst hb
  cases d <;> simp [isAgg, run_underlying hd]
theorem aX {x : Operand} {t : TypeId} {b o : Nat} {v : Value} (hx : σ.ev x = some (.pointer (some ⟨b, o, none⟩))) (ht : nU P t = some false) (hc : w.cell? ⟨b, o, none⟩ = some v) :
    Ex P σ ⟨dst, .load t x, T, pos, after, g⟩ w v w := fun ρ h => by
  simp [execOp, h x _ hx, Instr.loadAt, Instr.sureAddr, loadVar, pB ht, hc]
theorem iS {b o : Nat} {cs : Array Value} {t : TypeId} {fz : Nat × Nat} {v : Value} (hb : w.heap[b]? = some (.cells cs t fz)) (hv : cs[o]? = some v) : w.cell? ⟨b, o, none⟩ = some v := by
  simp [World.cell?, hb, hv]
def nth : List Value → Nat → Option Value
  | [], _ => none
  | a :: _, 0 => some a
  | _ :: l, n + 1 => nth l n
theorem UN : ∀ (l : List Value) (n : Nat), nth l n = l[n]?
  | [], _ => by simp [nth]
  | _ :: _, 0 => by simp [nth]
  | _ :: l, n + 1 => by simp [nth, UN l n]
theorem bI {b o : Nat} {cs : Array Value} {t : TypeId} {fz : Nat × Nat} {v : Value} (hb : w.heap[b]? = some (.cells cs t fz)) (hv : nth cs.toList o = some v) : w.cell? ⟨b, o, none⟩ = some v :=
  iS hb (by rw [UN] at hv; simpa using hv)
theorem lA (b o : Nat) : ∀ (n i : Nat) (acc : Array Value) (vs : List Value), vs.length = n → (∀ j v, vs[j]? = some v → w.cell? ⟨b, o + (i + j), none⟩ = some v) →
    (loadCellsFrom ⟨b, o, none⟩ i n acc).run P w = .ok (acc ++ vs.toArray) w := by
  intro n
  induction n with
  | zero => intro i acc vs hl _; have : vs = [] := List.eq_nil_of_length_eq_zero hl; subst this; simp [loadCellsFrom]
  | succ n ih =>
    intro i acc vs hl hc
    cases vs with
    | nil => simp at hl
    | cons v vs =>
      have h0 := hc 0 v (by simp)
      have hadd : (⟨b, o, none⟩ : Addr).add i = ⟨b, o + (i + 0), none⟩ := by unfold Addr.add; split <;> simp_all
      have := ih (i + 1) (acc.push v) vs (by simpa using hl) (fun j u hu => by have := hc (j + 1) u (by simpa using hu); rw [show i + 1 + j = i + (j + 1) from by omega]; exact this)
      simp only [Nat.add_zero] at h0 hadd
      simp [loadCellsFrom, hadd, h0, this]
theorem eB {x : Operand} {t : TypeId} {b o n : Nat} {vs : List Value} (hx : σ.ev x = some (.pointer (some ⟨b, o, none⟩))) (ht : nU P t = some true) (hs : iJ P t = some n) (hl : vs.length = n)
    (hc : ∀ j v, vs[j]? = some v → w.cell? ⟨b, o + j, none⟩ = some v) : Ex P σ ⟨dst, .load t x, T, pos, after, g⟩ w (.agg vs.toArray) w := fun ρ h => by
  obtain ⟨inf, hin, hsz⟩ := Option.map_eq_some_iff.1 hs
  have hr := lA (P := P) (w := w) b o n 0 #[] vs hl (fun j v hv => by simpa using hc j v hv)
  simp [execOp, h x _ hx, Instr.loadAt, Instr.sureAddr, loadVar, pB ht, sizeOf, typeInfo, hin, hsz, loadCells, hr]
end
section
variable {P : Program} {σ : Env} {w : World} {dst : Option Nat} {T : TypeId} {pos : String} {after : Array Edge} {g : Option (Nat × Bool)}
theorem ex_neqA {x y : Operand} {t t' : TypeId} {xs ys : Array Value} {p : Prop} [Decidable p] (hx : σ.ev x = some (.agg xs)) (hy : σ.ev y = some (.agg ys)) (hq : P.eqGuardType P.depth t = false)
    (hr : ∀ w, (Op.equal t (.agg xs) (.agg ys)).run P w = .ok (decide p) w) : Ex P σ ⟨dst, .binOp .neq t x y t', T, pos, after, g⟩ w (.bool (decide (¬ p))) w := fun ρ h => by
  simp [execOp, h x _ hx, h y _ hy, eqGuard, hq, Go.binOp, hr]
end
theorem wG {P : Program} {t : TypeId} {cs : Array Value} {off : Nat} {v : Value} (w : World) (ht : nU P t = some false) (hv : cs[off]? = some v) : (part t cs off).run P w = .ok v w := by
  simp [part, pB ht, hv]
def pF (P : Program) (t : TypeId) : Option (Array Value) := ((P.info? t).bind (·.zero)).map Value.cells
theorem set_row (cs : Array Value) (o : Nat) (v : Value) (h : o < cs.size) : (cs.toList.take o ++ #[v].toList ++ cs.toList.drop (o + 1)).toArray = cs.setIfInBounds o v := by
  apply Array.toList_inj.1
  simp [List.set_eq_take_append_cons_drop, h]
theorem xC (w : World) (o : Obj) : (w.alloc o).heap[w.heap.size]? = some o := heap_alloc_new w o
theorem rX {P : Program} (b : Nat) (t : TypeId) : ∀ (vs : List Value) (o i : Nat) (cs : Array Value) (w : World), w.heap[b]? = some (.cells cs t (0, 0)) → o + i + vs.length ≤ cs.size → (∀ v, v ∈ vs → v.oneCell' = true) →
    ∃ w', (storeCells ⟨b, o, none⟩ vs i).run P w = .ok () w' ∧ w'.heap[b]? = some (.cells (cs.toList.take (o + i) ++ vs ++ cs.toList.drop (o + i + vs.length)).toArray t (0, 0)) ∧ Evo [b] w w' := by
  intro vs
  induction vs with
  | nil => intro o i cs w hb _ _; exact ⟨w, by simp [storeCells], by simpa using hb, Evo.refl _ _⟩
  | cons v vs ih =>
    intro o i cs w hb hle h1
    have hadd : (⟨b, o, none⟩ : Addr).add i = ⟨b, o + i, none⟩ := by unfold Addr.add; split <;> simp_all
    have hlt : o + i < cs.size := by simp at hle; omega
    have hc : w.cell? ⟨b, o + i, none⟩ = some cs[o + i] := iS hb (by simp [hlt])
    have hfz : w.frozen? ⟨b, o + i, none⟩ = false := by simp [World.frozen?, hb]
    have hb1 : (w.setCell ⟨b, o + i, none⟩ v).heap[b]? = some (.cells (cs.setIfInBounds (o + i) v) t (0, 0)) := by
      simp only [World.setCell, Array.getElem?_modify, if_true, hb, Option.map_some]; rfl
    obtain ⟨w', hr, hb', he⟩ := ih o (i + 1) _ _ hb1 (by simp at hle ⊢; omega) (fun u hu => h1 u (List.mem_cons_of_mem _ hu))
    refine ⟨w', ?_, ?_, (xN w ⟨b, o + i, none⟩ v).trans he⟩
    · simp [storeCells, hadd, run_store P w _ v .plain (h1 v (by simp)), hc, hfz, hr]
    · rw [hb']
      congr 3
      apply List.ext_getElem?
      intro j
      simp only [Array.toList_setIfInBounds, List.append_assoc, List.getElem?_append, List.length_take, List.length_set, Array.length_toList, List.getElem?_take, List.getElem?_drop, List.length_cons, List.getElem?_set]
      by_cases h2 : j < o + i
      · simp [h2, show j < o + (i + 1) by omega, show j < min (o + (i + 1)) cs.size by omega, show j < min (o + i) cs.size by omega, show ¬ o + i = j by omega]
      · by_cases h3 : j = o + i
        · subst h3
          simp [show o + i < o + (i + 1) by omega, show o + i < min (o + (i + 1)) cs.size by omega, show ¬ (o + i < min (o + i) cs.size) by omega, hlt, show o + i - min (o + i) cs.size = 0 by omega]
        · simp only [show ¬ j < min (o + (i + 1)) cs.size by omega, show ¬ j < min (o + i) cs.size by omega, if_false]
          rw [show min (o + (i + 1)) cs.size = o + i + 1 by omega, show min (o + i) cs.size = o + i by omega]
          obtain ⟨m, rfl⟩ : ∃ m, j = o + i + 1 + m := ⟨j - (o + i + 1), by omega⟩
          rw [show o + i + 1 + m - (o + i + 1) = m by omega, show o + i + 1 + m - (o + i) = m + 1 by omega]
          simp only [List.getElem?_cons_succ, Nat.add_lt_add_iff_right, Nat.add_sub_add_right]
          split
          · rfl
          · rename_i h4
            rw [if_neg (by omega)]
            congr 1
            omega
section
variable {P : Program} {N : NN} {R : jZ} {σ : Env} {w : World} {ops : Array Oper} {rest : List Oper} {d : Nat} {T : TypeId} {pos : String} {after : Array Edge}
theorem bX {x : Operand} {t U : TypeId} {b n : Nat} {cs : Array Value} {fz : Nat × Nat} {dst : Option Nat} {g : Option (Nat × Bool)} (hx : σ.ev x = some (.pointer (some ⟨b, 0, none⟩))) (ht : nU P t = some true) (hs : iJ P t = some n)
    (hb : w.heap[b]? = some (.cells cs U fz)) (hl : cs.size = n) : Ex P σ ⟨dst, .load t x, T, pos, after, g⟩ w (.agg cs) w := by
  have := eB (P := P) (σ := σ) (w := w) (dst := dst) (T := T) (pos := pos) (after := after) (g := g) (vs := cs.toList) hx ht hs (by simpa using hl) (fun j v hv => iS hb (by simpa using hv))
  simpa using this
theorem wl_box {e : TypeId} {x : Operand} {v : Value} {cs : Array Value} (hd : Nat.blt d N.1 = true) (hx : σ.ev x = some v) (hc : v.cells = cs)
    (h : ∀ b w', w'.heap[b]? = some (.cells cs e (0, 0)) → w.heap.size = b → Evo [] w w' → WL P N ops R rest ((d, .pointer (some ⟨b, 0, none⟩)) :: σ) w') :
    WL P N ops R (⟨some d, .box e x, T, pos, after, none⟩ :: rest) σ w := by
  subst hc
  refine iT (w' := w.alloc (.cells v.cells e)) hd (fun ρ ha => ?_) (h _ _ (xC w _) rfl (qR w _))
  simp [execOp, ha x v hx, Instr.box, newVar, newRow]
theorem iM {e : TypeId} {x : Operand} {cs : Array Value} (hd : Nat.blt d N.1 = true) (hx : σ.ev x = some (.agg cs))
    (h : ∀ b w', w'.heap[b]? = some (.cells cs e (0, 0)) → w.heap.size = b → Evo [] w w' → WL P N ops R rest ((d, .pointer (some ⟨b, 0, none⟩)) :: σ) w') :
    WL P N ops R (⟨some d, .box e x, T, pos, after, none⟩ :: rest) σ w := wl_box hd hx rfl h
theorem cO {e : TypeId} {cs : Array Value} (hd : Nat.blt d N.1 = true) (hz : pF P e = some cs)
    (h : ∀ b w', w'.heap[b]? = some (.cells cs e (0, 0)) → w.heap.size = b → Evo [] w w' → WL P N ops R rest ((d, .pointer (some ⟨b, 0, none⟩)) :: σ) w') :
    WL P N ops R (⟨some d, .alloc e, T, pos, after, none⟩ :: rest) σ w := by
  obtain ⟨v, hv, rfl⟩ := Option.map_eq_some_iff.1 hz
  obtain ⟨i, hi, hz'⟩ := Option.bind_eq_some_iff.1 hv
  refine iT (w' := w.alloc (.cells v.cells e)) hd (fun ρ _ => ?_) (h _ _ (xC w _) rfl (qR w _))
  simp [execOp, Instr.alloc, zeroValue, typeInfo, hi, hz', newVar, newRow]
theorem kB {t U : TypeId} {x y : Operand} {v : Value} {b o n : Nat} {cs : Array Value} (hx : σ.ev x = some (.pointer (some ⟨b, o, none⟩))) (hy : σ.ev y = some v) (hs : iJ P t = some n) (hn : v.cells.size = n)
    (h1 : ∀ u, u ∈ v.cells.toList → u.oneCell' = true) (hb : w.heap[b]? = some (.cells cs U (0, 0))) (hle : o + n ≤ cs.size)
    (h : ∀ w', w'.heap[b]? = some (.cells (cs.toList.take o ++ v.cells.toList ++ cs.toList.drop (o + n)).toArray U (0, 0)) → Evo [b] w w' → WL P N ops R rest σ w') :
    WL P N ops R (⟨none, .store t x y, T, pos, after, none⟩ :: rest) σ w := by
  obtain ⟨i, hi, hsz⟩ := Option.map_eq_some_iff.1 hs
  obtain ⟨w', hr, hb', he⟩ := rX (P := P) b U v.cells.toList o 0 cs w hb (by simpa [hn] using hle) h1
  refine wl_skip (w' := w') (fun ρ ha => ?_) (h w' (by simpa [hn] using hb') he)
  simp [execOp, ha x _ hx, ha y _ hy, Instr.storeAt, Instr.sureAddr, storeVar, sizeOf, typeInfo, hi, hsz, hn, hr]
theorem bJ {t U : TypeId} {x y : Operand} {v : Value} {b o : Nat} {cs : Array Value} (hx : σ.ev x = some (.pointer (some ⟨b, o, none⟩))) (hy : σ.ev y = some v) (h1 : v.oneCell' = true) (hs : iJ P t = some 1)
    (hb : w.heap[b]? = some (.cells cs U (0, 0))) (hle : Nat.blt o cs.size = true)
    (h : ∀ w', w'.heap[b]? = some (.cells (cs.setIfInBounds o v) U (0, 0)) → Evo [b] w w' → WL P N ops R rest σ w') :
    WL P N ops R (⟨none, .store t x y, T, pos, after, none⟩ :: rest) σ w := by
  have hc : v.cells = #[v] := by cases v <;> first | rfl | cases h1
  have hlt : o < cs.size := of_decide_eq_true (by simpa using hle)
  refine kB hx hy hs (by simp [hc]) (by simp [hc, h1]) hb (by omega) (fun w' hb' he => h w' ?_ he)
  rw [hb', hc]
  have e := set_row cs o v hlt
  simp only at e ⊢
  rw [e]
def AllOne : List Value → Prop
  | [] => True
  | v :: r => v.oneCell' = true ∧ AllOne r
theorem AllOne.mem {l : List Value} (h : AllOne l) : ∀ u, u ∈ l → u.oneCell' = true := by
  induction l with
  | nil => intro u hu; cases hu
  | cons v l ih =>
    intro u hu
    rcases List.mem_cons.1 hu with rfl | hu
    · exact h.1
    · exact ih h.2 u hu
theorem aV {t U : TypeId} {x y : Operand} {b n : Nat} {cs vs : Array Value} (hx : σ.ev x = some (.pointer (some ⟨b, 0, none⟩))) (hy : σ.ev y = some (.agg vs)) (hs : iJ P t = some n)
    (hb : w.heap[b]? = some (.cells cs U (0, 0))) (hn : vs.size = n) (hn' : cs.size = n) (h1 : AllOne vs.toList)
    (h : ∀ w', w'.heap[b]? = some (.cells vs U (0, 0)) → Evo [b] w w' → WL P N ops R rest σ w') :
    WL P N ops R (⟨none, .store t x y, T, pos, after, none⟩ :: rest) σ w := by
  refine kB hx hy hs hn (fun u hu => h1.mem u hu) hb (by omega) (fun w' hb' he => h w' ?_ he)
  rw [hb']
  simp only [List.take_zero, List.nil_append, Nat.zero_add]
  rw [List.drop_of_length_le (by simp; omega)]
  simp [Value.cells]
end
def CellsAt (w : World) (b o : Nat) (vs : List Value) : Prop := ∀ j v, vs[j]? = some v → w.cell? ⟨b, o + j, none⟩ = some v
theorem CellsAt.evo {X : List Nat} {w w' : World} {b o : Nat} {vs : List Value} (h : CellsAt w b o vs) (he : Evo X w w') (hb : b ∉ X) : CellsAt w' b o vs := fun j v hv => he.cell (h j v hv) hb
def intB (P : Program) (t : TypeId) : Option Bool := (P.underlying t).map fun | .int _ => true | _ => false
def Own (w : World) (e : TypeId) (sz : Nat) (v : Value) (n : Nat) (xs : List Value) (ob : Option Nat) : Prop :=
  xs.length = n * sz ∧ ((v = .slice none 0 0 ∧ n = 0 ∧ ob = none) ∨
    ∃ g cap cur, ob = some g ∧ v = .slice (some ⟨g, 0, none⟩) n cap ∧ w.heap[g]? = some (.cells cur e (0, 0)) ∧ n ≤ cap ∧ cap ≤ maxLen ∧ cur.size = cap * sz ∧ cur.toList.take (n * sz) = xs)
structure Src (P : Program) (w : World) (sz : Nat) (x : Value) (m : Nat) (news : List Value) : Prop where
  len : ∀ w2, (Builtin.lenOf x).run P w2 = .ok m w2
  cells : ∀ w2 : World, w2.heap = w.heap → (Builtin.firstCells sz m x).run P w2 = .ok news.toArray w2
  length : news.length = m * sz
  one : ∀ u, u ∈ news → u.oneCell' = true
theorem Src.slice {P : Program} {w : World} {sz b o m c : Nat} {news : List Value} (hl : news.length = m * sz) (hc : CellsAt w b o news) (h1 : ∀ u, u ∈ news → u.oneCell' = true) : Src P w sz (.slice (some ⟨b, o, none⟩) m c) m news :=
  ⟨fun _ => rfl, fun w2 h2 => run_firstCells_some (P := P) w2 sz m ⟨b, o, none⟩ m c news hl (fun j v hv => by
    have hadd : (⟨b, o, none⟩ : Addr).add j = ⟨b, o + j, none⟩ := by unfold Addr.add; split <;> simp_all
    rw [hadd, show w2.cell? ⟨b, o + j, none⟩ = w.cell? ⟨b, o + j, none⟩ from by simp [World.cell?, h2]]
    exact hc j v hv), hl, h1⟩
theorem KS {P : Program} {w : World} {t u ty e : TypeId} {i : TypeInfo} {z : Value} {sz bytes : Nat} (ht : P.underlying t = some (.slice e)) (hu : intB P u = some false) (hi : P.info? e = some i) (hz : i.zero = some z)
    (hsize : i.size = sz) (hby : i.bytes = bytes) (hb0 : 0 < bytes) (hzs : z.cells.size = sz) {v x : Value} {n m : Nat} {xs news : List Value} {ob : Option Nat} (hown : Own w e sz v n xs ob) (hsrc : Src P w sz x m news)
    (hbytes : (n + m) * bytes ≤ 140737488355328) :
    ∃ v' w' ob', (Builtin.append_ #[t, u] ty #[v, x]).run P w = .ok v' w' ∧ Own w' e sz v' (n + m) (xs ++ news) ob' ∧ Evo ob.toList w w' ∧ (ob' = ob ∨ ∃ g, ob' = some g ∧ w.heap.size ≤ g ∧ Evo [] w w') := by
  subst hsize hby
  obtain ⟨du, hdu, hdb⟩ := Option.map_eq_some_iff.1 hu
  have hmul : n + m ≤ (n + m) * i.bytes := Nat.le_mul_of_pos_right _ hb0
  have h63 : n + m ≤ 140737488355328 := Nat.le_trans hmul hbytes
  have hlen : (xs ++ news).length = (n + m) * i.size := by rw [List.length_append, hown.1, hsrc.length, Nat.add_mul]
  have hnz : ∀ k, du ≠ .int k := fun k hk => by subst hk; simp at hdb
  have grown : ∀ old, old < n + m → ∃ w', w' = w.drew.alloc (.cells (xs.toArray ++ news.toArray ++ Builtin.zeroCells z.cells (grownCap w (n + m) old e - (n + m))) e) ∧
      Own w' e i.size (.slice (some ⟨w.heap.size, 0, none⟩) (n + m) (grownCap w (n + m) old e)) (n + m) (xs ++ news) (some w.heap.size) ∧ Evo [] w w' := by
    intro old ho
    refine ⟨_, rfl, ⟨hlen, .inr ⟨w.heap.size, _, _, rfl, rfl, heap_alloc_new w.drew _, grownCap_ge w (n + m) old e, grownCap_le_maxLen w (n + m) old e (by unfold maxLen; omega), ?_, ?_⟩⟩, ⟨rfl, rfl, rfl, by simp, fun k hk _ => RowKit.Below.heap_alloc w.drew _ k hk⟩⟩
    · have hge := grownCap_ge w (n + m) old e
      simp only [Array.size_append, List.size_toArray, size_zeroCells, hzs, hown.1, hsrc.length, ← Nat.add_mul]
      congr 1
      omega
    · simp only [Array.toList_append, List.append_assoc]
      rw [← List.append_assoc, ← hlen]
      exact List.take_left
  rcases hown.2 with ⟨rfl, rfl, rfl⟩ | ⟨g, cap, cur, rfl, rfl, hg, hnc, hcm, hcs, htake⟩
  · have hx : xs = [] := List.eq_nil_of_length_eq_zero (by simpa using hown.1)
    subst hx
    by_cases hm : m = 0
    · subst hm
      have hn : news = [] := List.eq_nil_of_length_eq_zero (by simpa using hsrc.length)
      subst hn
      refine ⟨.slice none 0 0, w, none, ?_, ⟨by simp, .inl ⟨rfl, rfl, rfl⟩⟩, Evo.refl _ _, .inl rfl⟩
      have hc := hsrc.cells w rfl
      simp only [Builtin.append_, run_underlying ht, run_underlying hdu, sizeOf, typeInfo, hi, List.getElem?_toArray, List.getElem?_cons_zero, List.getElem?_cons_succ, Sem.run_bind, Sem.run_pure, Result.andThen_ok, run_program]
      simp [hi, hsrc.len, hc]
    · obtain ⟨w', hw', ho', he'⟩ := grown 0 (by omega)
      refine ⟨_, w', some w.heap.size, ?_, ho', he'.any _, .inr ⟨_, rfl, Nat.le_refl _, he'⟩⟩
      have hc := hsrc.cells w.drew rfl
      have hfit := growslice_fits (need := 0 + m) (old := 0) (by omega) hbytes
      simp only [Nat.zero_add] at hfit
      simp only [Builtin.append_, run_underlying ht, run_underlying hdu, sizeOf, typeInfo, hi, List.getElem?_toArray, List.getElem?_cons_zero, List.getElem?_cons_succ, Sem.run_bind, Sem.run_pure, Result.andThen_ok, run_program]
      simp [hi, hz, zeroValue, typeInfo, hsrc.len, hc, hm, show ¬ (9223372036854775807 < (m : Int)) by omega, show ¬ (281474976710656 < Builtin.nextslicecap m 0 * i.bytes) by omega, Question.forced, run_firstCells_none, newRow, grownCap, hw']
  · by_cases hroom : n + m ≤ cap
    · have hfit : n * i.size + 0 + news.length ≤ cur.size := by rw [hsrc.length, hcs, Nat.add_zero, ← Nat.add_mul]; exact Nat.mul_le_mul_right _ hroom
      obtain ⟨w', hr, hb', he'⟩ := rX (P := P) g e news (n * i.size) 0 cur w hg hfit hsrc.one
      refine ⟨.slice (some ⟨g, 0, none⟩) (n + m) cap, w', some g, ?_, ⟨hlen, .inr ⟨g, cap, _, rfl, rfl, hb', hroom, hcm, ?_, ?_⟩⟩, he', .inl rfl⟩
      · have hc := hsrc.cells w rfl
        have hadd : (⟨g, 0, none⟩ : Addr).add (n * i.size) = ⟨g, n * i.size, none⟩ := by unfold Addr.add; split <;> simp_all
        simp only [Builtin.append_, run_underlying ht, run_underlying hdu, sizeOf, typeInfo, hi, List.getElem?_toArray, List.getElem?_cons_zero, List.getElem?_cons_succ, Sem.run_bind, Sem.run_pure, Result.andThen_ok, run_program]
        simp [hi, hsrc.len, hc, hroom, hadd, hr]
      · simp only [List.size_toArray, List.length_append, List.length_take, List.length_drop, Array.length_toList]
        omega
      · simp only [Nat.add_zero] at htake ⊢
        rw [htake, ← hlen]
        exact List.take_left
    · obtain ⟨w', hw', ho', he'⟩ := grown cap (by omega)
      refine ⟨_, w', some w.heap.size, ?_, ho', he'.any _, .inr ⟨_, rfl, Nat.le_refl _, he'⟩⟩
      have hc := hsrc.cells w.drew rfl
      have hold := run_firstCells_some (P := P) w.drew i.size n ⟨g, 0, none⟩ n cap xs hown.1 (fun j v hv => by
        have hadd : (⟨g, 0, none⟩ : Addr).add j = ⟨g, j, none⟩ := by unfold Addr.add; split <;> simp_all
        rw [hadd]
        refine iS hg ?_
        rw [← htake, List.getElem?_take] at hv
        split at hv
        · simpa using hv
        · cases hv)
      have hfit := growslice_fits (need := n + m) (old := cap) (by omega) hbytes
      simp only [Builtin.append_, run_underlying ht, run_underlying hdu, sizeOf, typeInfo, hi, List.getElem?_toArray, List.getElem?_cons_zero, List.getElem?_cons_succ, Sem.run_bind, Sem.run_pure, Result.andThen_ok, run_program]
      simp [hi, hz, zeroValue, typeInfo, hsrc.len, hc, hold, hroom, show ¬ (9223372036854775807 < (n : Int) + (m : Int)) by omega, show ¬ (281474976710656 < Builtin.nextslicecap (n + m) cap * i.bytes) by omega, Question.forced, newRow, grownCap, hw']
      rw [← Array.append_assoc, show xs.toArray ++ news.toArray = (xs ++ news).toArray from by simp]
def OwnS (w : World) (e : TypeId) (sz : Nat) (a : Option Addr) (n c : Nat) (xs : List Value) (ob : Option Nat) : Prop := Own w e sz (.slice a n c) n xs ob
theorem OwnS.nil (w : World) (e : TypeId) (sz : Nat) : OwnS w e sz none 0 0 [] none := ⟨by simp, .inl ⟨rfl, rfl, rfl⟩⟩
theorem OwnS.lt {w : World} {e : TypeId} {sz : Nat} {a : Option Addr} {n c : Nat} {xs : List Value} {g : Nat} (h : OwnS w e sz a n c xs (some g)) : g < w.heap.size := by
  rcases h.2 with ⟨_, _, h⟩ | ⟨g', _, _, hg, _, hb, _⟩
  · cases h
  · cases hg; exact fF hb
theorem OwnS.evo {X : List Nat} {w w' : World} {e : TypeId} {sz : Nat} {a : Option Addr} {n c : Nat} {xs : List Value} {ob : Option Nat} (h : OwnS w e sz a n c xs ob) (he : Evo X w w') (hx : ∀ g, ob = some g → g ∉ X) : OwnS w' e sz a n c xs ob := by
  refine ⟨h.1, ?_⟩
  rcases h.2 with h1 | ⟨g, cap, cur, hg, hv, hb, r⟩
  · exact .inl h1
  · exact .inr ⟨g, cap, cur, hg, hv, he.blk hb (hx g hg), r⟩
theorem OwnS.evo0 {w w' : World} {e : TypeId} {sz : Nat} {a : Option Addr} {n c : Nat} {xs : List Value} {ob : Option Nat} (h : OwnS w e sz a n c xs ob) (he : Evo [] w w') : OwnS w' e sz a n c xs ob := h.evo he (fun _ _ h => by cases h)
theorem OwnS.length {w : World} {e : TypeId} {sz : Nat} {a : Option Addr} {n c : Nat} {xs : List Value} {ob : Option Nat} (h : OwnS w e sz a n c xs ob) : xs.length = n * sz := h.1
theorem OwnS.le {w : World} {e : TypeId} {sz : Nat} {a : Option Addr} {n c : Nat} {xs : List Value} {ob : Option Nat} (h : OwnS w e sz a n c xs ob) : n ≤ c := by
  rcases h.2 with ⟨h1, rfl, _⟩ | ⟨g, cap, cur, _, hv, _, hn, _⟩
  · omega
  · cases hv; exact hn
theorem OwnS.at {w : World} {e : TypeId} {sz : Nat} {a : Option Addr} {n c : Nat} {xs : List Value} {ob : Option Nat} (h : OwnS w e sz a n c xs ob) (h0 : 0 < n) : ∃ g cur, ob = some g ∧ a = some ⟨g, 0, none⟩ ∧ w.heap[g]? = some (.cells cur e (0, 0)) ∧ cur.size = c * sz ∧ cur.toList.take (n * sz) = xs := by
  rcases h.2 with ⟨_, rfl, _⟩ | ⟨g, cap, cur, hg, hv, hb, hn, hc, hs, ht⟩
  · omega
  · cases hv; exact ⟨g, cur, hg, rfl, hb, hs, ht⟩
theorem OwnS.cells {w : World} {e : TypeId} {sz : Nat} {a : Option Addr} {n c : Nat} {xs : List Value} {ob : Option Nat} (h : OwnS w e sz a n c xs ob) (h0 : 0 < n) : ∃ g, ob = some g ∧ a = some ⟨g, 0, none⟩ ∧ CellsAt w g 0 xs := by
  obtain ⟨g, cur, hg, ha, hb, _, ht⟩ := h.at h0
  refine ⟨g, hg, ha, fun j v hv => iS hb ?_⟩
  rw [← ht, List.getElem?_take] at hv
  split at hv
  · simpa using hv
  · cases hv
def BS (P : Program) (t u : TypeId) : Option (TypeId × Nat × Nat) :=
  match P.underlying t with
  | some (.slice e) => match P.info? e with
    | some i => match i.zero with
      | some z => if z.cells.size = i.size ∧ 0 < i.bytes ∧ intB P u = some false then some (e, i.size, i.bytes) else none
      | none => none
    | none => none
  | _ => none
section
variable {P : Program} {N : NN} {R : jZ} {σ : Env} {w : World} {ops : Array Oper} {rest : List Oper} {d : Nat} {T : TypeId} {pos : String} {after : Array Edge}
theorem KP {s x : Operand} {t u e : TypeId} {ats : Array TypeId} {sz bytes n m c : Nat} {a : Option Addr} {vx : Value} {xs news : List Value} {ob : Option Nat} (hd : Nat.blt d N.1 = true) (hs : σ.ev s = some (.slice a n c)) (hx : σ.ev x = some vx) (hats : ats = #[t, u])
    (hf : BS P t u = some (e, sz, bytes)) (hown : OwnS w e sz a n c xs ob) (hsrc : Src P w sz vx m news) (hbytes : (n + m) * bytes ≤ 140737488355328)
    (h : ∀ a' c' w' ob', OwnS w' e sz a' (n + m) c' (xs ++ news) ob' → Evo ob.toList w w' → (ob' = ob ∨ ∃ g, ob' = some g ∧ w.heap.size ≤ g ∧ Evo [] w w') → WL P N ops R rest ((d, .slice a' (n + m) c') :: σ) w') :
    WL P N ops R (⟨some d, .call ⟨.builtin .append, #[s, x], ats⟩, T, pos, after, none⟩ :: rest) σ w := by
  subst hats
  simp only [BS] at hf
  split at hf <;> try cases hf
  rename_i e' ht
  split at hf <;> try cases hf
  rename_i i hi
  split at hf <;> try cases hf
  rename_i z hz
  split at hf <;> try cases hf
  rename_i hc
  obtain ⟨v', w', ob', hr, ho, he, hob⟩ := KS (ty := T) ht hc.2.2 hi hz rfl rfl hc.2.1 hc.1 hown hsrc hbytes
  have hv : ∃ a' c', v' = .slice a' (n + m) c' := by
    rcases ho.2 with ⟨h1, h2, _⟩ | ⟨g, cap, _, _, h1, _⟩
    · exact ⟨none, 0, by rw [h1, h2]⟩
    · exact ⟨_, _, h1⟩
  obtain ⟨a', c', rfl⟩ := hv
  refine iT (w' := w') hd (fun ρ ha => ?_) (h a' c' w' ob' ho he hob)
  simp [execOp, resolve, ha s _ hs, ha x _ hx, invoke, builtin, hr]
theorem cM {s x : Operand} {t u e : TypeId} {ats : Array TypeId} {sz bytes n m c : Nat} {a : Option Addr} {vx : Value} {xs news : List Value} {ob : Option Nat} (hd : Nat.blt d N.1 = true) (hs : σ.ev s = some (.slice a n c)) (hx : σ.ev x = some vx) (hats : ats = #[t, u])
    (hf : BS P t u = some (e, sz, bytes)) (hown : OwnS w e sz a n c xs ob) (hsrc : Src P w sz vx m news) (hbytes : (n + m) * bytes ≤ 140737488355328)
    (h : ∀ a' c' w' ob', OwnS w' e sz a' (n + m) c' (xs ++ news) ob' → Evo ob.toList w w' → (ob' = ob ∨ ∃ g, ob' = some g ∧ w.heap.size ≤ g) → WL P N ops R rest ((d, .slice a' (n + m) c') :: σ) w') :
    WL P N ops R (⟨some d, .call ⟨.builtin .append, #[s, x], ats⟩, T, pos, after, none⟩ :: rest) σ w :=
  KP hd hs hx hats hf hown hsrc hbytes fun a' c' w' ob' h1 h2 h3 => h a' c' w' ob' h1 h2 (h3.imp id fun ⟨g, k1, k2, _⟩ => ⟨g, k1, k2⟩)
theorem VZ (sz : Nat) : ∀ (vs : List Value) (k : Nat) (pre post : List Value), (∀ v, v ∈ vs → v.cells.size = sz) → pre.length = k * sz → post.length = vs.length * sz →
    Instr.fill (fun i => some (i * sz, sz)) (pre ++ post).toArray ((vs.zipIdx k).map fun p => (p.2, p.1)) = some (pre ++ vs.flatMap (fun v => v.cells.toList)).toArray := by
  intro vs
  induction vs with
  | nil => intro k pre post _ _ hpost; have : post = [] := List.eq_nil_of_length_eq_zero (by simpa using hpost); subst this; simp [Instr.fill]
  | cons v vs ih =>
    intro k pre post hsz hpre hpost
    have hv := hsz v (by simp)
    have hpl : post.length = sz + vs.length * sz := by rw [hpost, List.length_cons, Nat.add_mul]; omega
    have key : ∀ (l : List Value) (j : Nat) (p q : List Value), p.length = k * sz + j → l.length ≤ q.length →
        (l.zipIdx j).foldl (fun (cs : Array Value) x => cs.setIfInBounds (k * sz + x.2) x.1) (p ++ q).toArray = (p ++ l ++ q.drop l.length).toArray := by
      intro l
      induction l with
      | nil => intro j p q _ _; simp
      | cons c l ihl =>
        intro j p q hp hq
        cases q with
        | nil => simp at hq
        | cons q0 q =>
          have := ihl (j + 1) (p ++ [c]) q (by simp [hp]; omega) (by simpa using hq)
          simp only [List.zipIdx_cons, List.foldl_cons, List.setIfInBounds_toArray]
          rw [show (p ++ q0 :: q).set (k * sz + j) c = p ++ [c] ++ q from by rw [← hp]; simp]
          simpa using this
    have hk := key v.cells.toList 0 pre post (by simpa using hpre) (by simp [hv]; omega)
    simp only [List.zipIdx_cons, List.map_cons, Instr.fill]
    rw [if_neg (by simp [hv, hpre, hpl])]
    rw [← Array.foldl_toList, Array.toList_zipIdx, hk]
    have h2 := ih (k + 1) (pre ++ v.cells.toList) (post.drop v.cells.toList.length) (fun u hu => hsz u (List.mem_cons_of_mem _ hu)) (by simp [hpre, hv, Nat.add_mul]) (by simp [hv, hpl])
    rw [h2]
    simp
def rV (P : Program) (t : TypeId) : Option (TypeId × Nat) :=
  match P.underlying t with
  | some (.slice e) => match P.info? e with
    | some i => match i.zero with
      | some z => if z.cells.size = i.size then some (e, i.size) else none
      | none => none
    | none => none
  | _ => none
theorem bL {t e : TypeId} {sz len : Nat} {parts : Array (Nat × Operand)} {vs : List Value} (hd : Nat.blt d N.1 = true) (hf : rV P t = some (e, sz)) (hp : parts.toList.map (fun p => (p.1, σ.ev p.2)) = vs.zipIdx.map (fun q => (q.2, some q.1)))
    (hlen : vs.length = len) (hsz : vs.all (fun v => Nat.beq v.cells.size sz) = true) (hle : Nat.ble (len * sz + len) 16777216 = true)
    (h : ∀ b w', OwnS w' e sz (some ⟨b, 0, none⟩) len len (vs.flatMap fun v => v.cells.toList) (some b) → w.heap.size = b → Evo [] w w' → WL P N ops R rest ((d, .slice (some ⟨b, 0, none⟩) len len) :: σ) w') :
    WL P N ops R (⟨some d, .buildSlice t len parts, T, pos, after, none⟩ :: rest) σ w := by
  simp only [rV] at hf
  split at hf <;> try cases hf
  rename_i e' ht
  split at hf <;> try cases hf
  rename_i i hi
  split at hf <;> try cases hf
  rename_i z hz
  split at hf <;> try cases hf
  rename_i hc
  have hvs : ∀ v, v ∈ vs → v.cells.size = i.size := fun v hv => Nat.eq_of_beq_eq_true (List.all_eq_true.1 hsz v hv)
  have hfl : (vs.flatMap fun v => v.cells.toList).length = len * i.size := by
    rw [← hlen]; clear hp hlen hsz hle h
    induction vs with
    | nil => simp
    | cons v vs ih => simp [ih (fun u hu => hvs u (List.mem_cons_of_mem _ hu)), hvs v (by simp), Nat.add_mul]; omega
  have hle' : len * i.size + len ≤ 16777216 := Nat.le_of_ble_eq_true hle
  refine iT (w' := w.alloc (.cells (vs.flatMap fun v => v.cells.toList).toArray e)) hd (fun ρ ha => ?_) (h w.heap.size _ ⟨hfl, .inr ⟨w.heap.size, len, _, rfl, rfl, heap_alloc_new w _, Nat.le_refl _, ?_, by simp [hfl], ?_⟩⟩ rfl (qR w _))
  · have hparts : (parts.map fun p => (p.1, ρ p.2)).toList = (vs.zipIdx 0).map fun p => (p.2, p.1) := by
      rw [Array.toList_map]
      clear h hlen hsz hvs hfl hle hle'
      revert hp
      generalize parts.toList = l
      generalize vs.zipIdx 0 = q
      intro hp
      induction l generalizing q with
      | nil => cases q with | nil => rfl | cons _ _ => simp at hp
      | cons p l ih =>
        cases q with
        | nil => simp at hp
        | cons x q =>
          simp only [List.map_cons, List.cons.injEq, Prod.mk.injEq] at hp ⊢
          exact ⟨⟨hp.1.1, ha _ _ hp.1.2⟩, ih q hp.2⟩
    have hfill := VZ i.size vs 0 [] (List.map (fun j => z.cells[j % z.cells.size]!) (List.range (len * i.size))) hvs (by simp) (by simp [hlen])
    simp only [List.nil_append] at hfill
    have harr : ((Array.range (len * i.size)).map fun j => z.cells[j % z.cells.size]!) = (List.map (fun j => z.cells[j % z.cells.size]!) (List.range (len * i.size))).toArray := by
      apply Array.toList_inj.1; simp
    rw [← harr, ← hparts] at hfill
    simp only [execOp, Instr.buildSlice, run_underlying ht, sizeOf, typeInfo, hi, Sem.run_bind, Sem.run_pure, Result.andThen_ok, run_program, zeroValue]
    rw [Array.toList_map] at hfill
    by_cases h0 : len * i.size = 0
    · have hr0 : Array.range 0 = #[] := rfl
      simp only [h0, hr0, Array.map_empty] at hfill
      simp only [hi, h0, hr0, if_true, Sem.run_bind, Sem.run_pure, Result.andThen_ok, run_program, Array.map_empty, Array.toList_map]
      simp [hfill, newRow]
    · have hzz : (zeroValue e).run P w = .ok z w := by simp [zeroValue, typeInfo, hi, hz]
      simp [hi, hz, h0, newRow, show ¬ (16777216 < len * i.size) by omega, hfill]
  · unfold maxLen; omega
  · rw [← hfl]; exact List.take_length
end
section
variable {P : Program} {N : NN} {R : jZ} {σ : Env} {w : World} {ops : Array Oper} {rest : List Oper} {d : Nat} {op : Op} {T : TypeId} {pos : String} {after : Array Edge}
def QL (P : Program) (N : NN) (ops : Array Oper) (w : World) (R : jZ) (l : List Oper) (σ : Env) : Prop :=
  ∀ a, Fits N σ a → wpQuiet P ops (fun w' => ∃ n, w' = w.drewN n) (fun a' => ∀ w', (∃ n, w' = w.drewN n) → toQ R .normal a' w') l a
theorem CY (w : World) (n : Nat) : Evo [] w (w.drewN n) := ⟨rfl, rfl, rfl, Nat.le_refl _, fun _ _ _ => rfl⟩
theorem eK {id : Nat} {l : List Oper} (hm : P.follows .mixedOrders = true) (hB : Region.lexB .any l.toArray = true) (h : QL P N l.toArray w R l σ) : CW P N (.region id l.toArray true) R σ w :=
  fun a ha => wp_region_quiet_lit hm hB (h a ha)
theorem eN (h : ∀ w', Evo [] w w' → R .normal N σ w') : QL P N ops w R [] σ := fun _ ha => wpQuiet_nil fun w' ⟨n, hn⟩ => ⟨N, σ, ha, h w' (hn ▸ CY w n)⟩
theorem ql_val {r : Value} (hd : Nat.blt d N.1 = true) (hx : ∀ w', Evo [] w w' → Ex P σ ⟨some d, op, T, pos, after, none⟩ w' r w') (h : QL P N ops w R rest ((d, r) :: σ)) :
    QL P N ops w R (⟨some d, op, T, pos, after, none⟩ :: rest) σ := fun a ha => by
  refine wpQuiet_step fun K hK => ?_
  rw [if_pos (by simp [Region.wanted])]
  refine ⟨r, ?_, hK _ (h _ (ha.put (of_decide_eq_true (by simpa using hd)) r))⟩
  rintro w' ⟨n, rfl⟩
  unfold Oper.quietAt
  rw [hx _ (CY w n) a.eval ha.agrees]
  exact ⟨rfl, rfl⟩
theorem bG {r : Value} (hx : ∀ w', Evo [] w w' → Ex P σ ⟨some d, op, T, pos, after, none⟩ w' r w') (h : QL P N ops w R rest ((d, r) :: σ)) (hd : Nat.blt d N.1 = true := by rfl) : QL P N ops w R (⟨some d, op, T, pos, after, none⟩ :: rest) σ := ql_val hd hx h
theorem ql_go {dst : Option Nat} {j : Nat} {pol : Bool} {oj : Oper} {t : Nat} (hj : ops[j]? = some oj) (ht : oj.dst = some t) (hv : σ.get t = some (.bool pol)) (hN : Nat.blt t N.1 = true)
    (h : QL P N ops w R (⟨dst, op, T, pos, after, none⟩ :: rest) σ) : QL P N ops w R (⟨dst, op, T, pos, after, some (j, pol)⟩ :: rest) σ := fun a ha => by
  have h1 := h a ha
  have hg : Region.wanted (⟨dst, op, T, pos, after, some (j, pol)⟩ : Oper) (yielded ops a.tmps) = true := by
    have hs : t < a.tmps.size := by rw [ha.1]; exact of_decide_eq_true (by simpa using hN)
    have := ha.2.2 t _ hv
    simp only [Array.getD_eq_getD_getElem?, Array.getElem?_eq_getElem hs, Option.getD_some] at this
    simp [Region.wanted, yielded, hj, ht, Array.getElem?_eq_getElem hs, this]
  unfold wpQuiet at h1 ⊢
  rw [if_pos hg]
  rw [if_pos (by simp [Region.wanted])] at h1
  exact h1
theorem qlg {dst : Option Nat} {j : Nat} {pol : Bool} {oj : Oper} {t : Nat} (h : QL P N ops w R (⟨dst, op, T, pos, after, none⟩ :: rest) σ) (hj : ops[j]? = some oj := by rfl) (ht : oj.dst = some t := by rfl) (hv : σ.get t = some (.bool pol) := by rfl) (hN : Nat.blt t N.1 = true := by rfl) : QL P N ops w R (⟨dst, op, T, pos, after, some (j, pol)⟩ :: rest) σ := ql_go hj ht hv hN h
theorem ql_no {j : Nat} {pol b : Bool} {oj : Oper} {t : Nat} (hj : ops[j]? = some oj) (ht : oj.dst = some t) (hv : σ.get t = some (.bool b)) (hb : b = !pol) (hN : Nat.blt t N.1 = true) (hd : Nat.blt d N.1 = true)
    (h : QL P N ops w R rest ((d, undef) :: σ)) : QL P N ops w R (⟨some d, op, T, pos, after, some (j, pol)⟩ :: rest) σ := fun a ha => by
  have hg : Region.wanted (⟨some d, op, T, pos, after, some (j, pol)⟩ : Oper) (yielded ops a.tmps) = false := by
    have hs : t < a.tmps.size := by rw [ha.1]; exact of_decide_eq_true (by simpa using hN)
    have := ha.2.2 t _ hv
    simp only [Array.getD_eq_getD_getElem?, Array.getElem?_eq_getElem hs, Option.getD_some] at this
    subst hb
    cases pol <;> simp [Region.wanted, yielded, hj, ht, Array.getElem?_eq_getElem hs, this]
  unfold wpQuiet
  rw [if_neg (by rw [hg]; simp)]
  exact h _ (ha.put (of_decide_eq_true (by simpa using hd)) _)
theorem qln {j : Nat} {pol b : Bool} {oj : Oper} {t : Nat} (h : QL P N ops w R rest ((d, undef) :: σ)) (hj : ops[j]? = some oj := by rfl) (ht : oj.dst = some t := by rfl) (hv : σ.get t = some (.bool b) := by rfl) (hb : b = !pol := by rfl) (hN : Nat.blt t N.1 = true := by rfl) (hd : Nat.blt d N.1 = true := by rfl) : QL P N ops w R (⟨some d, op, T, pos, after, some (j, pol)⟩ :: rest) σ := ql_no hj ht hv hb hN hd h
theorem Fits.split {t : Nat} {b c : Bool} {a : Act} (hv : σ.get t = some (.bool b)) (he : b = c) (ha : Fits N σ a) : Fits N ((t, .bool c) :: σ) a :=
  ⟨ha.1, ha.2.1, fun u v hu => by
    simp only [Env.get] at hu
    cases hb : Nat.beq t u with
    | true =>
      rw [hb] at hu
      have : t = u := Nat.eq_of_beq_eq_true hb
      subst this
      simp only [cond_true, Option.some.injEq] at hu
      rw [← hu, ha.2.2 t _ hv, he]
    | false => rw [hb] at hu; exact ha.2.2 u v hu⟩
theorem kC {l : List Oper} {t : Nat} {p : Prop} [Decidable p] (hv : σ.get t = some (.bool (decide p))) (ht : p → QL P N ops w R l ((t, .bool true) :: σ)) (hf : ¬ p → QL P N ops w R l ((t, .bool false) :: σ)) : QL P N ops w R l σ := by
  intro a ha
  by_cases h : p
  · exact ht h a (ha.split hv (decide_eq_true h))
  · exact hf h a (ha.split hv (decide_eq_false h))
end
abbrev Rel (α : Type) := List Nat → World → List Value → α → Prop
def Rel.Pers {α : Type} (R : Rel α) : Prop := ∀ X w w' vs d, Evo X w w' → R X w vs d → R X w' vs d
def Rel.Fresh {α : Type} (R : Rel α) : Prop := ∀ X Y w vs d, (∀ y, y ∈ Y → y ∈ X ∨ w.heap.size ≤ y) → R X w vs d → R Y w vs d
def RSl {α : Type} (sz : Nat) (R : Rel α) (X : List Nat) (w : World) (v : Value) (ds : List α) : Prop :=
  ∃ a c, v = .slice a ds.length c ∧ ds.length ≤ c ∧ ∀ k (hk : k < ds.length), ∃ b o vs, a = some ⟨b, o, none⟩ ∧ b ∉ X ∧ vs.length = sz ∧ CellsAt w b (o + k * sz) vs ∧ R X w vs ds[k]
theorem RSl.evo {α : Type} {sz : Nat} {R : Rel α} (hR : R.Pers) {X : List Nat} {w w' : World} {v : Value} {ds : List α} (he : Evo X w w') (h : RSl sz R X w v ds) : RSl sz R X w' v ds := by
  obtain ⟨a, c, hv, hc, h⟩ := h
  refine ⟨a, c, hv, hc, fun k hk => ?_⟩
  obtain ⟨b, o, vs, ha, hb, hl, hcs, hr⟩ := h k hk
  exact ⟨b, o, vs, ha, hb, hl, hcs.evo he hb, hR _ _ _ _ _ he hr⟩
def RStr : Rel ByteArray := fun _ _ vs s => vs = [.string s]
def Apart (o p : Option Nat) : Prop := ∀ g, o = some g → p = some g → False
def Ge (w : World) (o : Option Nat) : Prop := ∀ g, o = some g → w.heap.size ≤ g
def Lt (w : World) (o : Option Nat) : Prop := ∀ g, o = some g → g < w.heap.size
theorem Apart.symm {o p : Option Nat} (h : Apart o p) : Apart p o := fun g h1 h2 => h g h2 h1
theorem Lt.blk {w : World} {b : Nat} {o : Obj} (h : w.heap[b]? = some o) : Lt w (some b) := fun g hg => by cases hg; exact fF h
theorem Lt.own {w : World} {e : TypeId} {sz : Nat} {a : Option Addr} {n c : Nat} {xs : List Value} {ob : Option Nat} (h : OwnS w e sz a n c xs ob) : Lt w ob := fun g hg => by subst hg; exact h.lt
theorem Apart.new {w : World} {o : Option Nat} {b : Nat} (h : Lt w o) (hs : w.heap.size = b) : Apart o (some b) := fun g h1 h2 => by have h3 := Option.some.inj h2; have := h g h1; omega
theorem Apart.fresh {w : World} {o p : Option Nat} (h : Lt w o) (hs : Ge w p) : Apart o p := fun g h1 h2 => by have := h g h1; have := hs g h2; omega
theorem Apart.nil (o : Option Nat) : Apart o Option.none := fun _ _ h => by cases h
theorem Apart.app {w : World} {o ob ob' : Option Nat} (h : Apart o ob) (hl : Lt w o) (hob : ob' = ob ∨ ∃ g, ob' = some g ∧ w.heap.size ≤ g) : Apart o ob' := fun g h1 h2 => by
  rcases hob with rfl | ⟨g', rfl, hg⟩
  · exact h g h1 h2
  · cases h2; have := hl g h1; omega
theorem Apart.nmem {b : Nat} {ob : Option Nat} (h : Apart (some b) ob) : b ∉ ob.toList := fun hm => by
  cases ob with
  | none => cases hm
  | some g => exact h g (by simp at hm; rw [hm]) rfl
theorem Apart.nmem1 {b c : Nat} (h : Apart (some b) (some c)) : b ∉ [c] := h.nmem
theorem Apart.own {o ob : Option Nat} (h : Apart o ob) : ∀ g, o = some g → g ∉ ob.toList := fun g hg => by subst hg; exact h.nmem
theorem Apart.own1 {o : Option Nat} {c : Nat} (h : Apart o (some c)) : ∀ g, o = some g → g ∉ [c] := fun g hg => by subst hg; exact h.nmem
theorem Ge.nil (w : World) : Ge w none := fun g h => by cases h
theorem Ge.new {X : List Nat} {a w : World} {b : Nat} (h : Evo X a w) (hs : w.heap.size = b) : Ge a (some b) := fun g hg => by cases hg; have := h.size; omega
theorem Ge.fresh {X : List Nat} {a w : World} {o : Option Nat} (h : Evo X a w) (hs : Ge w o) : Ge a o := fun g hg => by have := h.size; have := hs g hg; omega
theorem Ge.app {X : List Nat} {a w : World} {ob ob' : Option Nat} (h : Ge a ob) (he : Evo X a w) (hob : ob' = ob ∨ ∃ g, ob' = some g ∧ w.heap.size ≤ g) : Ge a ob' := fun g h2 => by
  rcases hob with rfl | ⟨g', rfl, hg⟩
  · exact h g h2
  · cases h2; have := he.size; omega
theorem Ge.mem {X : List Nat} {a : World} {ob : Option Nat} (h : Ge a ob) : ∀ y, y ∈ ob.toList → y ∈ X ∨ a.heap.size ≤ y := fun y hy => by
  cases ob with
  | none => cases hy
  | some g => simp at hy; subst hy; exact .inr (h _ rfl)
theorem Ge.mem1 {X : List Nat} {a : World} {b : Nat} (h : Ge a (some b)) : ∀ y, y ∈ [b] → y ∈ X ∨ a.heap.size ≤ y := h.mem
theorem Src.ofOwn {P : Program} {w : World} {e : TypeId} {sz : Nat} {a : Option Addr} {n c : Nat} {xs : List Value} {ob : Option Nat} (h : OwnS w e sz a n c xs ob) (h1 : AllOne xs) : Src P w sz (.slice a n c) n xs := by
  have h1' := h1.mem
  rcases Nat.eq_zero_or_pos n with h0 | h0
  · subst h0
    have hx : xs = [] := List.eq_nil_of_length_eq_zero (by simpa using h.1)
    subst hx
    refine ⟨fun _ => rfl, fun w2 _ => ?_, by simp, h1'⟩
    cases a with
    | none => rfl
    | some a => simp [Builtin.firstCells, loadCells, loadCellsFrom]
  · obtain ⟨g, _, rfl, hc⟩ := h.cells h0
    exact Src.slice h.1 hc h1'
theorem RSl.fresh {α : Type} {sz : Nat} {R : Rel α} (hsz : 0 < sz) (hR : R.Fresh) {X Y : List Nat} {w : World} {v : Value} {ds : List α} (hy : ∀ y, y ∈ Y → y ∈ X ∨ w.heap.size ≤ y) (h : RSl sz R X w v ds) : RSl sz R Y w v ds := by
  obtain ⟨a, c, hv, hc, h⟩ := h
  refine ⟨a, c, hv, hc, fun k hk => ?_⟩
  obtain ⟨b, o, vs, ha, hb, hl, hcs, hr⟩ := h k hk
  refine ⟨b, o, vs, ha, fun hbY => ?_, hl, hcs, hR _ _ _ _ _ hy hr⟩
  rcases hy b hbY with h1 | h1
  · exact hb h1
  · cases vs with
    | nil => simp at hl; omega
    | cons v0 vs =>
      have := World.block_lt_of_cell? w _ (hcs 0 v0 (by simp))
      simp only at this
      omega
def RowsOk {α : Type} (sz : Nat) (R : Rel α) (X : List Nat) (w : World) (rows : List (List Value)) (ds : List α) : Prop :=
  rows.length = ds.length ∧ ∀ k (h : k < ds.length) (h' : k < rows.length), rows[k].length = sz ∧ R X w rows[k] ds[k]
theorem RowsOk.flen {α : Type} {sz : Nat} {R : Rel α} {X : List Nat} {w : World} {rows : List (List Value)} {ds : List α} (h : RowsOk sz R X w rows ds) : ∀ r, r ∈ rows → r.length = sz := fun r hr => by
  obtain ⟨k, hk, rfl⟩ := List.getElem_of_mem hr
  exact (h.2 k (by rw [← h.1]; exact hk) hk).1
theorem IP {sz : Nat} : ∀ {rows : List (List Value)} (_ : ∀ r, r ∈ rows → r.length = sz) {k j : Nat} (hk : k < rows.length) (_ : j < sz), rows.flatten[k * sz + j]? = rows[k][j]? := by
  intro rows
  induction rows with
  | nil => intro _ k j hk; simp at hk
  | cons r rows ih =>
    intro h k j hk hj
    have hr := h r (by simp)
    cases k with
    | zero => simp [List.getElem?_append, hr, hj]
    | succ k =>
      have := ih (fun r hr => h r (List.mem_cons_of_mem _ hr)) (k := k) (j := j) (by simpa using hk) hj
      simp only [List.flatten_cons, List.getElem?_append, hr, List.getElem_cons_succ]
      rw [if_neg (by rw [Nat.add_mul]; omega), show (k + 1) * sz + j - sz = k * sz + j by rw [Nat.add_mul]; omega, this]
theorem OwnS.set {w w' : World} {e : TypeId} {sz : Nat} {a : Option Addr} {n c : Nat} {xs : List Value} {g : Nat} {cur : Array Value} {U : TypeId} {i : Nat} {v : Value} (h : OwnS w e sz a n c xs (some g)) (hb : w.heap[g]? = some (.cells cur U (0, 0))) (hb' : w'.heap[g]? = some (.cells (cur.setIfInBounds i v) U (0, 0))) : OwnS w' e sz a n c (xs.set i v) (some g) := by
  refine ⟨by simp [h.1], ?_⟩
  rcases h.2 with ⟨_, _, h2⟩ | ⟨g', cap, cur', hg, hv, hbb, hn, hc, hs, ht⟩
  · cases h2
  · cases hg
    rw [hb] at hbb
    cases hbb
    refine .inr ⟨g, cap, _, rfl, hv, hb', hn, hc, by simp [hs], ?_⟩
    rw [← ht]
    simp [List.take_set]
theorem OwnS.set' {w w' : World} {e : TypeId} {sz : Nat} {a : Option Addr} {n c : Nat} {xs : List Value} {ob : Option Nat} {g : Nat} {cur : Array Value} {U : TypeId} {i : Nat} {v : Value} (h : OwnS w e sz a n c xs ob) (hg : ob = some g) (hb : w.heap[g]? = some (.cells cur U (0, 0))) (hb' : w'.heap[g]? = some (.cells (cur.setIfInBounds i v) U (0, 0))) : OwnS w' e sz a n c (xs.set i v) ob := by
  subst hg; exact h.set hb hb'
theorem oC {w w' : World} {ob : Option Nat} {g : Nat} (hg : ob = some g) (h : Evo [g] w w') : Evo ob.toList w w' := by subst hg; exact h
theorem OwnS.inb {w : World} {e : TypeId} {sz : Nat} {a : Option Addr} {n c k j o : Nat} {xs : List Value} {ob : Option Nat} {cur : Array Value} (h : OwnS w e sz a n c xs ob) (hs : cur.size = c * sz) (hk : k < n) (hj : j < sz) (ho : o = k * sz + j) : o < cur.size := by
  have h1 := h.le
  have h2 : (k + 1) * sz ≤ c * sz := Nat.mul_le_mul_right _ (by omega)
  rw [hs, ho]
  rw [Nat.add_mul] at h2
  omega
theorem RSl.ofOwn {α : Type} {sz : Nat} {R : Rel α} {X : List Nat} {w : World} {e : TypeId} {a : Option Addr} {n c : Nat} {rows : List (List Value)} {ds : List α} {ob : Option Nat} (h : OwnS w e sz a n c rows.flatten ob) (hr : RowsOk sz R X w rows ds) (hn : ds.length = n) (hx : ∀ g, ob = some g → g ∉ X) :
    RSl sz R X w (.slice a n c) ds := by
  subst hn
  refine ⟨a, c, rfl, h.le, fun k hk => ?_⟩
  obtain ⟨g, hg, ha, hcs⟩ := h.cells (by omega)
  have hk' : k < rows.length := by rw [hr.1]; exact hk
  obtain ⟨h1, h2⟩ := hr.2 k hk hk'
  refine ⟨g, 0, rows[k], ha, hx g hg, h1, fun j v hv => ?_, h2⟩
  have hj : j < sz := by rw [← h1]; exact (List.getElem?_eq_some_iff.1 hv).1
  have := hcs (k * sz + j) v (by rw [IP hr.flen hk' hj]; exact hv)
  rw [show 0 + k * sz + j = 0 + (k * sz + j) by omega]
  exact this
section
variable {P : Program} {N : NN} {R : jZ} {σ : Env} {w : World} {ops : Array Oper} {rest : List Oper} {dst : Option Nat} {d : Nat} {op : Op} {T : TypeId} {pos : String} {after : Array Edge} {g : Option (Nat × Bool)}
theorem gH {x i : Operand} {t : TypeId} {k : IntKind} {z : Int} {n sz b o len c : Nat} (hx : σ.ev x = some (.slice (some ⟨b, o, none⟩) len c)) (hi : σ.ev i = some (.int k z)) (hz : z = n) (he : vE P t = some sz) (hlt : n < len) :
    Ex P σ ⟨dst, .indexAddr t x i, T, pos, after, g⟩ w (.pointer (some ⟨b, o + n * sz, none⟩)) w := iE hx (by rw [hi, hz]) he hlt
theorem zK {t : TypeId} (a b : Bool) (w : World) (ht : P.underlying t = some .bool) : (Op.equal t (.bool a) (.bool b)).run P w = .ok (a == b) w := run_equalIn_bool w 9999 t a b ht
theorem ex_neqB {x y : Operand} {t t' : TypeId} {a b : Bool} (hx : σ.ev x = some (.bool a)) (hy : σ.ev y = some (.bool b)) (ht : P.underlying t = some .bool) : Ex P σ ⟨dst, .binOp .neq t x y t', T, pos, after, g⟩ w (.bool (!(a == b))) w := fun ρ h => by
  have := zK (P := P) a b w ht
  simp [execOp, h x _ hx, h y _ hy, eqGuard, Go.binOp, this]
theorem qY {j : Nat} {pol : Bool} {oj : Oper} {t : Nat} {a : Act} (hj : ops[j]? = some oj) (ht : oj.dst = some t) (hv : σ.get t = some undef) (ha : Fits N σ a) (hN : Nat.blt t N.1 = true) :
    Region.wanted (⟨dst, op, T, pos, after, some (j, pol)⟩ : Oper) (yielded ops a.tmps) = false := by
  have hs : t < a.tmps.size := by rw [ha.1]; exact of_decide_eq_true (by simpa using hN)
  have := ha.2.2 t _ hv
  simp only [Array.getD_eq_getD_getElem?, Array.getElem?_eq_getElem hs, Option.getD_some] at this
  simp [Region.wanted, yielded, hj, ht, Array.getElem?_eq_getElem hs, this, undef]
theorem wl_nou {j : Nat} {pol : Bool} {oj : Oper} {t : Nat} (hj : ops[j]? = some oj) (ht : oj.dst = some t) (hv : σ.get t = some undef) (hN : Nat.blt t N.1 = true) (hd : Nat.blt d N.1 = true)
    (h : WL P N ops R rest ((d, undef) :: σ) w) : WL P N ops R (⟨some d, op, T, pos, after, some (j, pol)⟩ :: rest) σ w := fun a ha => by
  unfold wpList
  rw [if_neg (by rw [qY hj ht hv ha hN]; simp)]
  exact h _ (ha.put (of_decide_eq_true (by simpa using hd)) _)
theorem gQ {j : Nat} {pol : Bool} {oj : Oper} {t : Nat} (hj : ops[j]? = some oj) (ht : oj.dst = some t) (hv : σ.get t = some undef) (hN : Nat.blt t N.1 = true) (hd : Nat.blt d N.1 = true)
    (h : QL P N ops w R rest ((d, undef) :: σ)) : QL P N ops w R (⟨some d, op, T, pos, after, some (j, pol)⟩ :: rest) σ := fun a ha => by
  unfold wpQuiet
  rw [if_neg (by rw [qY hj ht hv ha hN]; simp)]
  exact h _ (ha.put (of_decide_eq_true (by simpa using hd)) _)
end
section
variable {P : Program} {σ : Env} {w : World} {dst : Option Nat} {T : TypeId} {pos : String} {after : Array Edge} {g : Option (Nat × Bool)}
theorem toList_inj {a b : ByteArray} (h : a.toList = b.toList) : a = b := by
  rw [ByteArray.toList_eq, ByteArray.toList_eq] at h
  obtain ⟨⟨x⟩⟩ := a
  obtain ⟨⟨y⟩⟩ := b
  simp at h
  subst h
  rfl
theorem tI (a b : ByteArray) : (a.toList == b.toList) = decide (a = b) := by
  by_cases h : a = b
  · subst h; simp
  · rw [decide_eq_false h]
    exact beq_eq_false_iff_ne.2 (fun h2 => h (toList_inj h2))
theorem fX {x y : Operand} {t t' : TypeId} {a b : ByteArray} (hx : σ.ev x = some (.string a)) (hy : σ.ev y = some (.string b)) : Ex P σ ⟨dst, .binOp .eql t x y t', T, pos, after, g⟩ w (.bool (decide (a = b))) w := fun ρ h => by
  simp [execOp, h x _ hx, h y _ hy, eqGuard, Go.binOp, Op.stringOp, tI]
theorem vC {x y : Operand} {t t' : TypeId} {a b : ByteArray} (hx : σ.ev x = some (.string a)) (hy : σ.ev y = some (.string b)) : Ex P σ ⟨dst, .binOp .neq t x y t', T, pos, after, g⟩ w (.bool (decide (¬ a = b))) w := fun ρ h => by
  simp [execOp, h x _ hx, h y _ hy, eqGuard, Go.binOp, Op.stringOp, tI]
end
def xL (md : Region.Mode) (ops : Array Oper) (j : Nat) : Bool :=
  (List.range ops.size).all fun k => k == j || match ops[j]? with
    | some oj => oj.after.any fun e => Region.binds md e && e.on == k
    | none => false
def MN (P : Program) (md : Region.Mode) (ops : Array Oper) (Q : Exit → Act → World → Prop) (S : World → Prop) : Nat → Array Bool → Act → World → Prop
  | 0, listed, a, w => Region.ready md ops listed = [] ∧ Q .normal a w
  | fuel + 1, listed, a, w => (Region.ready md ops listed = [] → Q .normal a w) ∧
    ∀ i ∈ Region.ready md ops listed, wpOp P ops Q i (fun a' w' => (S w' ∨ xL md ops i = true) ∧ MN P md ops Q S fuel (listed.setIfInBounds i true) a' w') a w
section
variable {P : Program} {ops : Array Oper} {Q : Exit → Act → World → Prop} {md : Region.Mode} {S : World → Prop}
theorem JE : ∀ (fuel : Nat) (listed : Array Bool) (a : Act) (w : World), MN P md ops Q S fuel listed a w → wpAny P md ops Q fuel listed a w
  | 0, _, _, _, h => h
  | fuel + 1, _, _, _, h => ⟨h.1, fun i hi => wpOp_mono (fun a' w' h' => JE fuel _ a' w' h'.2) (h.2 i hi)⟩
theorem rJ {i : Nat} {oi : Oper} {v : Value} (hi : ops[i]? = some oi) (hsel : ∀ (j : Nat) (o : Oper) cs b, ops[j]? = some o → o.op ≠ .select cs b)
    (hQ : ∀ c a w, Q (.panic c) (a.put oi.dst v) w → Q (.panic c) a w) :
    ∀ (fuel : Nat) (listed : Array Bool) (a : Act) (w : World),
      (∀ j oj, ops[j]? = some oj → j ≠ i → listed.getD j true = false → (∀ e ∈ oj.after, Region.binds md e = true → e.on ≠ i) → oi.apart ops oj = true) →
      i ∈ Region.ready md ops listed → YieldsIf P ops S oi v a → S w →
      MN P md ops Q S fuel (listed.setIfInBounds i true) (a.put oi.dst v) w → MN P md ops Q S (fuel + 1) listed a w := by
  intro fuel
  induction fuel with
  | zero =>
    intro listed a w _ hr hy hS H
    refine ⟨fun h => (by rw [h] at hr; cases hr), fun j hj => ?_⟩
    by_cases hji : j = i
    · subst hji; exact hy.wpOp hi hS ⟨.inl hS, H⟩
    · have := ready_mono hj hji
      rw [H.1] at this
      cases this
  | succ fuel ih =>
    intro listed a w hfree hr hy hS H
    refine ⟨fun h => (by rw [h] at hr; cases hr), fun j hj => ?_⟩
    by_cases hji : j = i
    · subst hji; exact hy.wpOp hi hS ⟨.inl hS, H⟩
    · have h1 := H.2 j (ready_mono hj hji)
      obtain ⟨hjun, oj, hoj, hall⟩ := mem_ready.1 hj
      have hnot : ∀ e ∈ oj.after, Region.binds md e = true → e.on ≠ i := fun e he hb heq => by
        have h1 := hall e he hb
        have h0 := (mem_ready.1 hr).1
        rw [heq] at h1
        rcases Nat.lt_or_ge i listed.size with h' | h'
        · simp [h'] at h0 h1; rw [h0] at h1; cases h1
        · simp [Array.getElem?_eq_none h'] at h1
      have hlast : xL md ops j ≠ true := fun hl => by
        have hlt : i < ops.size := (Array.getElem?_eq_some_iff.1 hi).1
        have h2 := List.all_eq_true.1 hl i (List.mem_range.2 hlt)
        rw [hoj] at h2
        simp only [Bool.or_eq_true, beq_iff_eq] at h2
        rcases h2 with h2 | h2
        · exact hji h2.symm
        · obtain ⟨e, he, hb⟩ := Array.any_eq_true'.1 h2
          simp only [Bool.and_eq_true, beq_iff_eq] at hb
          exact hnot e he hb.1 hb.2
      have h2 := wpOp_putIf hoj (hfree j oj hoj hji hjun hnot) (fun cs b => hsel i oi cs b hi) (fun cs b => hsel j oj cs b hoj) hQ hy h1
      have hfree' : ∀ k ok, ops[k]? = some ok → k ≠ i → (listed.setIfInBounds j true).getD k true = false →
          (∀ e ∈ ok.after, Region.binds md e = true → e.on ≠ i) → oi.apart ops ok = true := fun k ok hk hki hun hno => by
        refine hfree k ok hk hki ?_ hno
        by_cases hjk : j = k
        · subst hjk; exact hjun
        · rw [getD_set_ne true hjk] at hun; exact hun
      refine wpOp_mono (fun a' w' h3 => ?_) h2
      have hS' : S w' := h3.2.1.resolve_right hlast
      refine ⟨.inl hS', ih (listed.setIfInBounds j true) a' w' hfree' (ready_mono hr (Ne.symm hji)) h3.1 hS' ?_⟩
      rw [Array.setIfInBounds_comm _ _ hji]
      exact h3.2.2
end
def agn (R : jZ) : jZ
  | .panic c, N, _, w => R (.panic c) N [] w
  | .normal, N, σ, w => R .normal N σ w
  | .exit i, N, σ, w => R (.exit i) N σ w
  | .goto l, N, σ, w => R (.goto l) N σ w
  | .ret, N, σ, w => R .ret N σ w
  | .outgrown, N, σ, w => R .outgrown N σ w
theorem QT {N : NN} {σ : Env} {a : Act} (h : Fits N σ a) : Fits N [] a := ⟨h.1, h.2.1, fun t v h => by cases h⟩
theorem toQ_agn {R : jZ} : ∀ e a w, toQ (agn R) e a w → toQ R e a w := fun e a w h => by
  cases e with
  | panic c => obtain ⟨N, σ, hf, h⟩ := h; exact ⟨N, [], QT hf, h⟩
  | normal => exact h
  | exit i => exact h
  | goto l => exact h
  | ret => exact h
  | outgrown => exact h
def AE (P : Program) (N : NN) (ops : Array Oper) (R : jZ) (S : World → Prop) (fuel : Nat) (listed : Array Bool) (σ : Env) (w : World) : Prop :=
  ∀ a, Fits N σ a → MN P .any ops (toQ (agn R)) S fuel listed a w
def AStep (P : Program) (N : NN) (ops : Array Oper) (R : jZ) (S : World → Prop) (fuel : Nat) (listed : Array Bool) (σ : Env) (w : World) (i : Nat) : Prop :=
  ∀ a, Fits N σ a → wpOp P ops (toQ (agn R)) i (fun a' w' => (S w' ∨ xL .any ops i = true) ∧ MN P .any ops (toQ (agn R)) S fuel (listed.setIfInBounds i true) a' w') a w
def AAll (p : Nat → Prop) : List Nat → Prop
  | [] => True
  | i :: r => p i ∧ AAll p r
section
variable {P : Program} {N : NN} {R : jZ} {σ : Env} {w : World} {ops : Array Oper} {S : World → Prop} {fuel : Nat} {listed : Array Bool} {d : Nat} {op : Op} {T : TypeId} {pos : String} {after : Array Edge}
theorem fR {id : Nat} {l : List Oper} (S : World → World → Prop) (hm : P.follows .mixedOrders = true)
    (h : ∀ w1, Evo [] w w1 → AE P N l.toArray R (S w1) l.toArray.size (Array.replicate l.toArray.size false) σ w1) : CW P N (.region id l.toArray true) R σ w :=
  fun a ha => wp_mono (wp_region_any hm (JE _ _ _ _ (h _ (WM w) a ha))) toQ_agn
theorem yI {R : jZ} {dst : Option Nat} {v : Value} : ∀ c a w, toQ (agn R) (.panic c) (a.put dst v) w → toQ (agn R) (.panic c) a w := by
  rintro c a w ⟨N, σ, hf, h⟩
  refine ⟨N, [], ⟨?_, ?_, fun t v h => by cases h⟩, h⟩
  · rw [← hf.1]; cases dst <;> simp [Act.put]
  · rw [← hf.2.1]; cases dst <;> rfl
theorem zC (i : Nat) {r : Value} (hi : ops[i]? = some ⟨some d, op, T, pos, after, none⟩) (hs : Region.noSelect ops = true) (hf : Region.free .any ops listed i = true) (hr : (Region.ready .any ops listed).contains i = true)
    (hd : Nat.blt d N.1 = true) (hx : ∀ w', S w' → Ex P σ ⟨some d, op, T, pos, after, none⟩ w' r w') (hS : S w) (h : AE P N ops R S fuel (listed.setIfInBounds i true) ((d, r) :: σ) w) : AE P N ops R S (fuel + 1) listed σ w := fun a ha =>
  rJ hi (Region.noSelect_spec hs) (fun c a w => yI c a w) fuel listed a w (Region.free_spec hi hf) (by simpa using hr)
    (.inl ⟨by simp [Region.wanted], fun w' hw' => hx w' hw' a.eval ha.agrees⟩) hS (h _ (ha.put (of_decide_eq_true (by simpa using hd)) r))
theorem aet (i : Nat) {r : Value} (hi : ops[i]? = some ⟨some d, op, T, pos, after, none⟩) (hx : ∀ w', S w' → Ex P σ ⟨some d, op, T, pos, after, none⟩ w' r w') (hS : S w) (h : AE P N ops R S fuel (listed.setIfInBounds i true) ((d, r) :: σ) w) (hs : Region.noSelect ops = true := by kernel_rfl) (hf : Region.free .any ops listed i = true := by kernel_rfl) (hr : (Region.ready .any ops listed).contains i = true := by kernel_rfl) (hd : Nat.blt d N.1 = true := by rfl) : AE P N ops R S (fuel + 1) listed σ w := zC i hi hs hf hr hd hx hS h
theorem eL (i : Nat) {j : Nat} {pol : Bool} {oj : Oper} {t : Nat} {r : Value} (hj : ops[j]? = some oj) (ht : oj.dst = some t) (hv : σ.get t = some (.bool pol)) (hN : Nat.blt t N.1 = true)
    (hi : ops[i]? = some ⟨some d, op, T, pos, after, some (j, pol)⟩) (hs : Region.noSelect ops = true) (hf : Region.free .any ops listed i = true) (hr : (Region.ready .any ops listed).contains i = true)
    (hd : Nat.blt d N.1 = true) (hx : ∀ w', S w' → Ex P σ ⟨some d, op, T, pos, after, some (j, pol)⟩ w' r w') (hS : S w) (h : AE P N ops R S fuel (listed.setIfInBounds i true) ((d, r) :: σ) w) : AE P N ops R S (fuel + 1) listed σ w := fun a ha => by
  have hg : Region.wanted (⟨some d, op, T, pos, after, some (j, pol)⟩ : Oper) (yielded ops a.tmps) = true := by
    have hs : t < a.tmps.size := by rw [ha.1]; exact of_decide_eq_true (by simpa using hN)
    have := ha.2.2 t _ hv
    simp only [Array.getD_eq_getD_getElem?, Array.getElem?_eq_getElem hs, Option.getD_some] at this
    simp [Region.wanted, yielded, hj, ht, Array.getElem?_eq_getElem hs, this]
  exact rJ hi (Region.noSelect_spec hs) (fun c a w => yI c a w) fuel listed a w (Region.free_spec hi hf) (by simpa using hr)
    (.inl ⟨hg, fun w' hw' => hx w' hw' a.eval ha.agrees⟩) hS (h _ (ha.put (of_decide_eq_true (by simpa using hd)) r))
theorem XG (i : Nat) {j : Nat} {pol b : Bool} {oj : Oper} {t : Nat} (hj : ops[j]? = some oj) (ht : oj.dst = some t) (hv : σ.get t = some (.bool b)) (hb : b = !pol) (hN : Nat.blt t N.1 = true)
    (hi : ops[i]? = some ⟨some d, op, T, pos, after, some (j, pol)⟩) (hs : Region.noSelect ops = true) (hf : Region.free .any ops listed i = true) (hr : (Region.ready .any ops listed).contains i = true)
    (hd : Nat.blt d N.1 = true) (hS : S w) (h : AE P N ops R S fuel (listed.setIfInBounds i true) ((d, undef) :: σ) w) : AE P N ops R S (fuel + 1) listed σ w := fun a ha => by
  have hg : Region.wanted (⟨some d, op, T, pos, after, some (j, pol)⟩ : Oper) (yielded ops a.tmps) = false := by
    have hs : t < a.tmps.size := by rw [ha.1]; exact of_decide_eq_true (by simpa using hN)
    have := ha.2.2 t _ hv
    simp only [Array.getD_eq_getD_getElem?, Array.getElem?_eq_getElem hs, Option.getD_some] at this
    subst hb
    cases pol <;> simp [Region.wanted, yielded, hj, ht, Array.getElem?_eq_getElem hs, this]
  exact rJ hi (Region.noSelect_spec hs) (fun c a w => yI c a w) fuel listed a w (Region.free_spec hi hf) (by simpa using hr)
    (.inr ⟨hg, rfl⟩) hS (h _ (ha.put (of_decide_eq_true (by simpa using hd)) _))
theorem lX (i : Nat) {j : Nat} {pol b : Bool} {oj : Oper} {t : Nat} (hi : ops[i]? = some ⟨some d, op, T, pos, after, some (j, pol)⟩) (hS : S w) (h : AE P N ops R S fuel (listed.setIfInBounds i true) ((d, undef) :: σ) w) (hj : ops[j]? = some oj := by rfl) (ht : oj.dst = some t := by rfl) (hv : σ.get t = some (.bool b) := by rfl) (hb : b = !pol := by rfl) (hN : Nat.blt t N.1 = true := by rfl) (hs : Region.noSelect ops = true := by kernel_rfl) (hf : Region.free .any ops listed i = true := by kernel_rfl) (hr : (Region.ready .any ops listed).contains i = true := by kernel_rfl) (hd : Nat.blt d N.1 = true := by rfl) : AE P N ops R S (fuel + 1) listed σ w := XG i hj ht hv hb hN hi hs hf hr hd hS h
theorem qS (i : Nat) {j : Nat} {pol : Bool} {oj : Oper} {t : Nat} (hj : ops[j]? = some oj) (ht : oj.dst = some t) (hv : σ.get t = some undef) (hN : Nat.blt t N.1 = true)
    (hi : ops[i]? = some ⟨some d, op, T, pos, after, some (j, pol)⟩) (hs : Region.noSelect ops = true) (hf : Region.free .any ops listed i = true) (hr : (Region.ready .any ops listed).contains i = true)
    (hd : Nat.blt d N.1 = true) (hS : S w) (h : AE P N ops R S fuel (listed.setIfInBounds i true) ((d, undef) :: σ) w) : AE P N ops R S (fuel + 1) listed σ w := fun a ha =>
  rJ hi (Region.noSelect_spec hs) (fun c a w => yI c a w) fuel listed a w (Region.free_spec hi hf) (by simpa using hr)
    (.inr ⟨qY hj ht hv ha hN, rfl⟩) hS (h _ (ha.put (of_decide_eq_true (by simpa using hd)) _))
theorem cA (rs : List Nat) (hr : Region.ready .any ops listed = rs) (hne : rs.isEmpty = false) (h : AAll (AStep P N ops R S fuel listed σ w) rs) : AE P N ops R S (fuel + 1) listed σ w := fun a ha => by
  refine ⟨fun h0 => ?_, ?_⟩
  · rw [hr] at h0; subst h0; cases hne
  · rw [hr]
    clear hr hne
    induction rs with
    | nil => intro i hi; cases hi
    | cons j rs ih =>
      intro i hi
      rcases List.mem_cons.1 hi with rfl | hi
      · exact h.1 a ha
      · exact ih h.2 i hi
theorem cG {i : Nat} {o : Oper} (hi : ops[i]? = some o) (h : WL P N ops (qM (fun N' σ' w' => N' = N ∧ (S w' ∨ xL .any ops i = true) ∧ AE P N ops R S fuel (listed.setIfInBounds i true) σ' w') (agn R)) [o] σ w) : AStep P N ops R S fuel listed σ w i := fun a ha => by
  have h1 := h a ha
  unfold wpList at h1
  unfold wpOp
  simp only [hi]
  have conv : ∀ a' w', toQ (qM (fun N' σ' w' => N' = N ∧ (S w' ∨ xL .any ops i = true) ∧ AE P N ops R S fuel (listed.setIfInBounds i true) σ' w') (agn R)) .normal a' w' →
      (S w' ∨ xL .any ops i = true) ∧ MN P .any ops (toQ (agn R)) S fuel (listed.setIfInBounds i true) a' w' := by
    rintro a' w' ⟨N', σ', hf, rfl, hs, hae⟩
    exact ⟨hs, hae a' hf⟩
  split
  · rename_i hw
    rw [if_pos hw] at h1
    rcases h1 with h1 | ⟨h1, a0, w0, h2⟩
    · refine .inl ?_
      unfold Oper.wp at h1 ⊢
      generalize (execOp a.eval o).run P w = r at *
      cases r with
      | ok n w' =>
        cases n <;> simp only [Oper.upon] at h1 ⊢
        case value u => exact conv _ _ (by simpa [wpList] using h1)
        case skip => exact conv _ _ (by simpa [wpList] using h1)
        case defer d => exact conv _ _ (by simpa [wpList] using h1)
        case enter f args =>
          refine h1.mono fun e w'' he => ?_
          cases e with
          | returned u => exact conv _ _ (by simpa [wpList] using he)
          | panicked c => exact he
          | outgrown => obtain ⟨a0, w0, h2⟩ := he; exact ⟨a0, w0, h2⟩
        case row row args => exact h1.mono fun u w'' he => conv _ _ (by simpa [wpList] using he)
      | halt x w' =>
        cases x <;> simp only [Oper.upon] at h1 ⊢
        case panic u => exact h1
    · exact .inr ⟨h1, a0, w0, h2⟩
  · rename_i hw
    rw [if_neg hw] at h1
    exact conv _ _ (by simpa [wpList] using h1)
theorem qT {t : Nat} {p : Prop} [Decidable p] (hv : σ.get t = some (.bool (decide p))) (ht : p → AE P N ops R S fuel listed ((t, .bool true) :: σ) w) (hf : ¬ p → AE P N ops R S fuel listed ((t, .bool false) :: σ) w) : AE P N ops R S fuel listed σ w := by
  intro a ha
  by_cases h : p
  · exact ht h a (ha.split hv (decide_eq_true h))
  · exact hf h a (ha.split hv (decide_eq_false h))
theorem bV {i : Nat} {w : World} (hS : S w ∨ xL .any ops i = true) (h : AE P N ops R S fuel (listed.setIfInBounds i true) σ w) :
    qM (fun N' σ' w' => N' = N ∧ (S w' ∨ xL .any ops i = true) ∧ AE P N ops R S fuel (listed.setIfInBounds i true) σ' w') R .normal N σ w := ⟨rfl, hS, h⟩
theorem dB (hr : Region.ready .any ops listed = []) (h : R .normal N σ w) : AE P N ops R S fuel listed σ w := fun a ha => by
  cases fuel with
  | zero => exact ⟨hr, N, σ, ha, h⟩
  | succ n => exact ⟨fun _ => ⟨N, σ, ha, h⟩, by rw [hr]; intro i hi; cases hi⟩
theorem gR {c : Code} {α : Type} (M : α → Env) (C : Env) (Φ : α → World → Prop) (_hC : Sub C σ) (h1 : CW P N c (qM (fun N' σ' w' => N' = N ∧ ∃ x, Sub (M x) σ' ∧ Sub C σ' ∧ Φ x w') R) σ w) (h2 : ∀ x w', Φ x w' → R .normal N (M x ++ C) w') : CW P N c R σ w := fun a ha => by
  refine wp_mono (h1 a ha) ?_
  intro e a' w' hq
  cases e with
  | normal => obtain ⟨N', σ', hf, rfl, x, hM, hC, hΦ⟩ := hq; exact ⟨N', M x ++ C, Fits.app hM hC hf hf, h2 x w' hΦ⟩
  | exit i => exact hq
  | goto l => exact hq
  | ret => exact hq
  | panic c => exact hq
  | outgrown => exact hq
structure Build (P : Program) (t : TypeId) (places : Array (Nat × Nat)) (zero : Array Value) : Prop where
  ex : ∃ fs z, P.underlying t = some (.struct fs) ∧ (P.info? t).bind (·.zero) = some z ∧ z.cells = zero ∧ ∀ w, (fs.mapM (fun (f : Field) => do pure (f.offset, ← sizeOf f.type)) : Sem (Array (Nat × Nat))).run P w = .ok places w
def QJ : List (Nat × Nat) → Nat → Option (Nat × Nat)
  | [], _ => none
  | a :: _, 0 => some a
  | _ :: l, n + 1 => QJ l n
theorem NQ : ∀ (l : List (Nat × Nat)) (n : Nat), QJ l n = l[n]?
  | [], _ => by simp [QJ]
  | _ :: _, 0 => by simp [QJ]
  | _ :: l, n + 1 => by simp [QJ, NQ l n]
def rW : List Value → Nat → List Value → List Value
  | l, _, [] => l
  | l, o, v :: r => rW (l.set o v) (o + 1) r
def IR (places : List (Nat × Nat)) : List Value → List (Nat × Value) → Option (List Value)
  | cells, [] => some cells
  | cells, (i, v) :: rest =>
    match QJ places i with
    | none => none
    | some (off, size) => cond (Nat.beq v.cells.toList.length size) (cond (Nat.ble (off + size) cells.length) (IR places (rW cells off v.cells.toList) rest) none) none
theorem xH (off : Nat) : ∀ (r l : List Value) (j : Nat), (r.zipIdx j).foldl (fun (cs : Array Value) x => cs.setIfInBounds (off + x.2) x.1) l.toArray = (rW l (off + j) r).toArray
  | [], _, _ => by simp [rW]
  | v :: r, l, j => by
    have := xH off r (l.set (off + j) v) (j + 1)
    simp only [List.zipIdx_cons, List.foldl_cons, List.setIfInBounds_toArray, rW]
    rw [this, Nat.add_assoc]
theorem IQ {places : Array (Nat × Nat)} : ∀ (vs : List (Nat × Value)) (cells r : List Value), IR places.toList cells vs = some r → Instr.fill (fun i => places[i]?) cells.toArray vs = some r.toArray
  | [], cells, r, h => by simp only [IR, Option.some.injEq] at h; subst h; simp [Instr.fill]
  | (i, v) :: vs, cells, r, h => by
    simp only [IR, NQ, Array.getElem?_toList] at h
    simp only [Instr.fill]
    cases hp : places[i]? with
    | none => rw [hp] at h; cases h
    | some os =>
      obtain ⟨off, size⟩ := os
      rw [hp] at h
      simp only at h
      cases hb : Nat.beq v.cells.toList.length size with
      | false => rw [hb] at h; cases h
      | true =>
        rw [hb] at h
        cases hl : Nat.ble (off + size) cells.length with
        | false => rw [hl] at h; cases h
        | true =>
          rw [hl] at h
          have h1 : v.cells.size = size := by simpa using Nat.eq_of_beq_eq_true hb
          have h2 : off + size ≤ cells.length := Nat.le_of_ble_eq_true hl
          simp only [cond_true] at h
          have := xH off v.cells.toList cells 0
          simp only
          rw [if_neg (by simp [h1, h2]), ← Array.foldl_toList, Array.toList_zipIdx, this]
          exact IQ vs _ r h
theorem cI {t : TypeId} {parts : Array (Nat × Operand)} {vs : List (Nat × Value)} {places : Array (Nat × Nat)} {zero cells : List Value} {dst : Option Nat} {g : Option (Nat × Bool)} (hB : Build P t places zero.toArray)
    (hp : parts.toList.map (fun p => (p.1, σ.ev p.2)) = vs.map (fun q => (q.1, some q.2))) (hf' : IR places.toList zero vs = some cells) : Ex P σ ⟨dst, .build t parts, T, pos, after, g⟩ w (.agg cells.toArray) w := fun ρ ha => by
  have hf := IQ vs zero cells hf'
  obtain ⟨fs, z, hu, hz, hzc, hr⟩ := hB.ex
  obtain ⟨i, hi, hz'⟩ := Option.bind_eq_some_iff.1 hz
  have hparts : (parts.map fun p => (p.1, ρ p.2)).toList = vs := by
    rw [Array.toList_map]
    clear hf hf'
    revert hp
    generalize parts.toList = l
    intro hp
    induction l generalizing vs with
    | nil => cases vs with | nil => rfl | cons _ _ => simp at hp
    | cons p l ih =>
      cases vs with
      | nil => simp at hp
      | cons x q =>
        simp only [List.map_cons, List.cons.injEq, Prod.mk.injEq] at hp ⊢
        exact ⟨Prod.ext hp.1.1 (ha _ _ hp.1.2), ih hp.2⟩
  rw [Array.toList_map] at hparts
  have hr' := hr w
  simp only [execOp, Instr.build, zeroValue, typeInfo, Sem.run_bind, run_program, Result.andThen_ok, hi, hz', Sem.run_pure, run_underlying hu, hr', hzc, Array.toList_map, hparts, hf]
theorem qX {rest : List Oper} {t U : TypeId} {x y : Operand} {v : Value} {b o : Nat} {cs : Array Value} (hx : σ.ev x = some (.pointer (some ⟨b, o, none⟩))) (hy : σ.ev y = some v) (h1 : v.oneCell' = true) (hs : iJ P t = some 1)
    (hb : w.heap[b]? = some (.cells cs U (0, 0))) (hle : o < cs.size)
    (h : ∀ w', w'.heap[b]? = some (.cells (cs.setIfInBounds o v) U (0, 0)) → Evo [b] w w' → WL P N ops R rest σ w') :
    WL P N ops R (⟨none, .store t x y, T, pos, after, none⟩ :: rest) σ w := bJ hx hy h1 hs hb (by simpa using hle) h
theorem IU {f : Fn} {xs : Array Operand} {vs : List Value} {dst : Option Nat} {g : Option (Nat × Bool)} (hxs : xs.toList.map σ.ev = vs.map some) :
    Ex P σ ⟨dst, .makeFunc f #[] xs, T, pos, after, g⟩ w (.func f #[] vs.toArray) w := fun ρ ha => by
  have hargs : xs.map ρ = vs.toArray := by
    apply Array.ext'
    rw [Array.toList_map]
    revert hxs
    generalize xs.toList = l
    intro hxs
    induction l generalizing vs with
    | nil => cases vs with | nil => rfl | cons _ _ => simp at hxs
    | cons x l ih =>
      cases vs with
      | nil => simp at hxs
      | cons v vs =>
        simp only [List.map_cons, List.cons.injEq] at hxs
        simp only [List.map_cons, ha x v hxs.1]
        exact congrArg _ (ih hxs.2)
  simp [execOp, Instr.makeFunc, hargs]
theorem cC {x : Operand} {vs : Array Value} {i : Nat} {v : Value} {dst : Option Nat} {g : Option (Nat × Bool)} (hx : σ.ev x = some (.tuple vs)) (hv : vs[i]? = some v) : Ex P σ ⟨dst, .extract x i, T, pos, after, g⟩ w v w := fun ρ ha => by
  simp [execOp, ha x _ hx, Instr.extract, hv]
theorem aG {rest : List Oper} {f : FuncId} {xs : Array Operand} {ats : Array TypeId} {vs : List Value} {Φ : Value → World → Prop} (hgo : dW P f) (hxs : xs.toList.map σ.ev = vs.map some)
    (hc : Calls P f vs.toArray w (Ret Φ)) (hd : Nat.blt d N.1 = true) (h : ∀ v w', Φ v w' → WL P N ops R rest ((d, v) :: σ) w') :
    WL P N ops R (⟨some d, .call ⟨.value (.func f), xs, ats⟩, T, pos, after, none⟩ :: rest) σ w := wl_call hgo hxs hc (fun k hk => by cases hk; exact hd) h
end
section
variable {P : Program} {σ : Env} {w : World}
def HN (tmps : Array Value) : ResultVar → Sem Value
  | .tmp t => pure (tmps.getD t undef)
  | .cell a t => do loadVar t (← asAddr (tmps.getD a undef))
def ResOk (P : Program) (σ : Env) (w : World) (r : ResultVar) (v : Value) : Prop := ∀ a, Fits (a.tmps.size, a.defers) σ a → (HN a.tmps r).run P w = .ok v w
theorem ResOk.tmp {t : Tmp} {v : Value} (h : σ.get t = some v) : ResOk P σ w (.tmp t) v := fun a ha => by simp only [HN, Sem.run_pure, ha.2.2 t v h]
theorem ResOk.cell1 {t : Tmp} {ty U : TypeId} {b : Nat} {cs : Array Value} {fz : Nat × Nat} {v : Value} (h : σ.get t = some (.pointer (some ⟨b, 0, none⟩))) (ha : nU P ty = some false) (hb : w.heap[b]? = some (.cells cs U fz)) (hv : nth cs.toList 0 = some v) : ResOk P σ w (.cell t ty) v := fun a hf => by
  simp [HN, hf.2.2 t _ h, asAddr, loadVar, pB ha, bI hb hv]
theorem ResOk.cellA {t : Tmp} {ty U : TypeId} {b n : Nat} {cs : Array Value} {fz : Nat × Nat} (h : σ.get t = some (.pointer (some ⟨b, 0, none⟩))) (ha : nU P ty = some true) (hs : iJ P ty = some n) (hb : w.heap[b]? = some (.cells cs U fz)) (hl : cs.size = n) : ResOk P σ w (.cell t ty) (.agg cs) := fun a hf => by
  obtain ⟨inf, hin, hsz⟩ := Option.map_eq_some_iff.1 hs
  have hr := lA (P := P) (w := w) b 0 n 0 #[] cs.toList (by simpa using hl) (fun j v hv => iS hb (by simpa using hv))
  simp [HN, hf.2.2 t _ h, asAddr, loadVar, pB ha, sizeOf, typeInfo, hin, hsz, loadCells, hr]
theorem rA (fn : Func) (tmps : Array Value) : results fn tmps = ((fn.results.mapM (HN tmps)) >>= fun vs => pure (if h : vs.size = 1 then vs[0] else Value.tuple vs)) := by
  unfold results
  congr 1
theorem bT {n : Nat} {fn : Func} {r : ResultVar} {v : Value} {Φ : Value → World → Prop} (hr : fn.results = #[r]) (h1 : ResOk P σ w r v) (h : Φ v w) : pP P fn (Ret Φ) .ret (n, []) σ w := ⟨rfl, fun a ha => by
  refine ⟨v, ?_, _, rfl, h⟩
  rw [rA, hr]
  simp [h1 a ha]⟩
theorem gC {n : Nat} {fn : Func} {r r' : ResultVar} {v v' : Value} {Φ : Value → World → Prop} (hr : fn.results = #[r, r']) (h1 : ResOk P σ w r v) (h2 : ResOk P σ w r' v') (h : Φ (.tuple #[v, v']) w) : pP P fn (Ret Φ) .ret (n, []) σ w := ⟨rfl, fun a ha => by
  refine ⟨.tuple #[v, v'], ?_, _, rfl, h⟩
  rw [rA, hr]
  simp [h1 a ha, h2 a ha]⟩
theorem MH {n : Nat} {fn : Func} {r r' r'' : ResultVar} {v v' v'' : Value} {Φ : Value → World → Prop} (hr : fn.results = #[r, r', r'']) (h1 : ResOk P σ w r v) (h2 : ResOk P σ w r' v') (h3 : ResOk P σ w r'' v'') (h : Φ (.tuple #[v, v', v'']) w) : pP P fn (Ret Φ) .ret (n, []) σ w := ⟨rfl, fun a ha => by
  refine ⟨.tuple #[v, v', v''], ?_, _, rfl, h⟩
  rw [rA, hr]
  simp [h1 a ha, h2 a ha, h3 a ha]⟩
theorem dN {n : Nat} {fn : Func} {t u x : Tmp} {v v' v'' : Value} {Φ : Value → World → Prop} (hr : fn.results = #[.tmp t, .tmp u, .tmp x]) (hv : σ.get t = some v) (hv' : σ.get u = some v') (hv'' : σ.get x = some v'') (h : Φ (.tuple #[v, v', v'']) w) : pP P fn (Ret Φ) .ret (n, []) σ w :=
  MH hr (.tmp hv) (.tmp hv') (.tmp hv'') h
end
section
variable {P : Program} {N : NN} {R : jZ} {σ : Env} {w : World} {ops : Array Oper} {rest : List Oper} {d : Nat} {op : Op} {T : TypeId} {pos : String} {after : Array Edge}
theorem aP {j : Nat} {pol b : Bool} {oj : Oper} {t : Nat} (h : WL P N ops R rest ((d, undef) :: σ) w) (hj : ops[j]? = some oj := by rfl) (ht : oj.dst = some t := by rfl) (hv : σ.get t = some (.bool b) := by rfl) (hb : b = !pol := by rfl) (hN : Nat.blt t N.1 = true := by rfl) (hd : Nat.blt d N.1 = true := by rfl) :
    WL P N ops R (⟨some d, op, T, pos, after, some (j, pol)⟩ :: rest) σ w := wl_no hj ht hv hb hN hd h
theorem eS {j : Nat} {pol : Bool} {oj : Oper} {t : Nat} (h : WL P N ops R rest ((d, undef) :: σ) w) (hj : ops[j]? = some oj := by rfl) (ht : oj.dst = some t := by rfl) (hv : σ.get t = some undef := by rfl) (hN : Nat.blt t N.1 = true := by rfl) (hd : Nat.blt d N.1 = true := by rfl) :
    WL P N ops R (⟨some d, op, T, pos, after, some (j, pol)⟩ :: rest) σ w := wl_nou hj ht hv hN hd h
theorem aW {dst : Option Nat} {j : Nat} {pol : Bool} {oj : Oper} {t : Nat} (h : WL P N ops R (⟨dst, op, T, pos, after, none⟩ :: rest) σ w) (hj : ops[j]? = some oj := by rfl) (ht : oj.dst = some t := by rfl) (hv : σ.get t = some (.bool pol) := by rfl) (hN : Nat.blt t N.1 = true := by rfl) :
    WL P N ops R (⟨dst, op, T, pos, after, some (j, pol)⟩ :: rest) σ w := wl_go hj ht hv hN h
theorem aA {x : Operand} {v : Value} (h : WL P N ops R rest ((d, v) :: σ) w) (hx : σ.ev x = some v := by rfl) (hd : Nat.blt d N.1 = true := by rfl) : WL P N ops R (⟨some d, .move x, T, pos, after, none⟩ :: rest) σ w := iT hd (bC hx) h
theorem bN {x : Operand} {v : Value} (h : WL P N ops R rest ((d, v) :: σ) w) (hx : σ.ev x = some v := by rfl) (hd : Nat.blt d N.1 = true := by rfl) : WL P N ops R (⟨some d, .assign x, T, pos, after, none⟩ :: rest) σ w := iT hd (cR hx) h
theorem bR {c x y : Operand} {v : Value} (h : WL P N ops R rest ((d, v) :: σ) w) (hc : σ.ev c = some (.bool false) := by rfl) (hx : σ.ev y = some v := by rfl) (hd : Nat.blt d N.1 = true := by rfl) : WL P N ops R (⟨some d, .pick c x y, T, pos, after, none⟩ :: rest) σ w := iT hd (eZ hc hx) h
theorem bW {c x y : Operand} {v : Value} (h : WL P N ops R rest ((d, v) :: σ) w) (hc : σ.ev c = some (.bool true) := by rfl) (hx : σ.ev x = some v := by rfl) (hd : Nat.blt d N.1 = true := by rfl) : WL P N ops R (⟨some d, .pick c x y, T, pos, after, none⟩ :: rest) σ w := iT hd (eP hc hx) h
end
def PF {α : Type} (P : Program) (t : TypeId) (R : Rel α) : Prop :=
  ∀ (H : Type) (enc : TypeId × Value → H) (w : World) (fuel : Nat) (cs : List Value) (x : DataW H × List MemPlace), DataW.trod enc P w 0 (fun _ => true) true fuel t cs = some x →
    (∀ n, n ∈ x.1.weights P t → n ≤ reachBytes) → ∃ d, R [] w cs d
def XK : Rel ByteArray := fun _ _ vs s => vs = [.string s] ∧ s.size ≤ 140737488351232
theorem QE {P : Program} {t : TypeId} (ht : P.underlying t = some .string) : PF P t XK := by
  intro H enc w fuel cs x h hw
  obtain ⟨s, hcs, rfl, _⟩ := DataW.trod_string ht h
  refine ⟨s, hcs, ?_⟩
  have := hw s.data.toList.length (by simp [DataW.weights])
  simpa [reachBytes] using this
theorem DC {w : World} {a : Addr} {n : Nat} {vs : List Value} (h : w.cells? 0 a n = some vs) : vs.length = n ∧ ∀ j v, vs[j]? = some v → w.cell? (a.add j) = some v := by
  unfold World.cells? at h
  rw [if_pos (Nat.zero_le _)] at h
  have hl := mapM_some_length h
  refine ⟨by simpa using hl, fun j v hv => ?_⟩
  have hj : j < n := by have := (List.getElem?_eq_some_iff.1 hv).1; simp at hl; omega
  have := mapM_some_get h j j (by simp [hj])
  rw [hv] at this
  exact this
theorem xG {H : Type} {P : Program} {e : TypeId} : ∀ {l : List (DataW H)} {d : DataW H}, d ∈ l → ∀ n, n ∈ d.weights P e → n ∈ DataW.weightsAll P e l
  | [], _, h, _, _ => by cases h
  | x :: l, d, h, n, hn => by
    simp only [DataW.weightsAll, List.mem_append]
    rcases List.mem_cons.1 h with rfl | h
    · exact .inl hn
    · exact .inr (xG h n hn)
def RSlB {α : Type} (sz bytes : Nat) (R : Rel α) : Rel (List α) := fun X w vs ds => ∃ v, vs = [v] ∧ RSl sz R X w v ds ∧ ds.length * bytes ≤ 140737488351232
theorem HV {α : Type} {P : Program} {t e : TypeId} {R : Rel α} {sz bytes : Nat} (ht : P.underlying t = some (.slice e)) (hs : P.cellsOf e = sz) (hb : P.bytesOf e = bytes) (h0 : 0 < sz) (hR : PF P e R) : PF P t (RSlB sz bytes R) := by
  subst hs hb
  intro H enc w fuel cs x h hw
  rcases DataW.trod_slice ht h with ⟨rfl, rfl⟩ | ⟨a, len, cap, elems, rest, n, rfl, rfl, rfl, _, hle, _, hel, hat, _, _⟩
  · exact ⟨[], .slice none 0 0, rfl, ⟨none, 0, rfl, Nat.le_refl _, fun k hk => by simp at hk⟩, by simp⟩
  · have hwl : (elems.length + rest.length) * P.bytesOf e ≤ 140737488351232 := by
      have := hw _ (by simp [DataW.weights, ht]; exact .inl rfl)
      simpa [reachBytes] using this
    have hwe : ∀ i (hi : i < elems.length) m, m ∈ (elems[i]).1.weights P e → m ≤ reachBytes := fun i hi m hm => by
      refine hw m ?_
      simp only [DataW.weights, ht, List.mem_cons, List.mem_append]
      exact .inr (.inl (xG (List.mem_map.2 ⟨elems[i], List.getElem_mem hi, rfl⟩) m hm))
    have key : ∀ i (hi : i < len), ∃ b o vs d, a = ⟨b, o, none⟩ ∧ vs.length = P.cellsOf e ∧ CellsAt w b (o + i * P.cellsOf e) vs ∧ R [] w vs d := by
      intro i hi
      have h1 := hat i hi
      have hi' : i < elems.length := by omega
      rw [List.getElem?_eq_getElem hi'] at h1
      obtain ⟨vs, hvs, htr⟩ := Option.bind_eq_some_iff.1 h1
      obtain ⟨hl, hc⟩ := DC hvs
      obtain ⟨d, hd⟩ := hR H enc w n vs _ htr (hwe i hi')
      obtain ⟨b, o, spot⟩ := a
      have hspot : spot = none := by
        cases vs with
        | nil => simp at hl; omega
        | cons v0 vs =>
          have h2 := hc 0 v0 (by simp)
          have h3 := World.cell?_spot h2
          by_cases hz : i * P.cellsOf e = 0
          · rw [hz] at h3; simpa [Addr.add] using h3
          · have hz' : i * P.cellsOf e ≠ 0 := hz
            have hat0 := hat 0 (by omega)
            rw [List.getElem?_eq_getElem (by omega)] at hat0
            obtain ⟨us, hus, _⟩ := Option.bind_eq_some_iff.1 hat0
            obtain ⟨hul, huc⟩ := DC hus
            cases us with
            | nil => simp at hul; omega
            | cons u0 us =>
              have h4 := World.cell?_spot (huc 0 u0 (by simp))
              simpa [Addr.add] using h4
      subst hspot
      refine ⟨b, o, vs, d, rfl, hl, fun j v hv => ?_, hd⟩
      have h2 := hc j v hv
      have hadd : ((⟨b, o, none⟩ : Addr).add (i * P.cellsOf e)).add j = ⟨b, o + i * P.cellsOf e + j, none⟩ := by
        unfold Addr.add
        split <;> split <;> simp_all
      rw [hadd] at h2
      exact h2
    have hex : ∀ m, m ≤ len → ∃ ds : List α, ds.length = m ∧ ∀ k (hk : k < ds.length), ∃ b o vs, some a = some ⟨b, o, none⟩ ∧ b ∉ ([] : List Nat) ∧ vs.length = P.cellsOf e ∧ CellsAt w b (o + k * P.cellsOf e) vs ∧ R [] w vs ds[k] := by
      intro m
      induction m with
      | zero => exact fun _ => ⟨[], rfl, fun k hk => by simp at hk⟩
      | succ m ih =>
        intro hm
        obtain ⟨ds, hl, hds⟩ := ih (by omega)
        obtain ⟨b, o, vs, d, ha, h1, h2, h3⟩ := key m (by omega)
        refine ⟨ds ++ [d], by simp [hl], fun k hk => ?_⟩
        by_cases hkm : k < ds.length
        · rw [List.getElem_append_left hkm]; exact hds k hkm
        · obtain rfl : k = m := by simp at hk; omega
          rw [List.getElem_append_right (by omega)]
          simp only [hl, Nat.sub_self, List.getElem_cons_zero]
          exact ⟨b, o, vs, by rw [ha], by simp, h1, h2, h3⟩
    obtain ⟨ds, hl, hds⟩ := hex len (Nat.le_refl _)
    refine ⟨ds, .slice (some a) len cap, rfl, ⟨some a, cap, by rw [hl], by omega, hds⟩, ?_⟩
    rw [hl, ← hel]
    exact Nat.le_trans (Nat.mul_le_mul_right _ (Nat.le_add_right _ _)) hwl
end Go.W
namespace Go.W
open Go.RowKit
theorem wnn {P : Program} {N : NN} {ops : Array Oper} {R : jZ} {σ : Env} {w : World} {K : NN → Env → World → Prop} (h : K N σ w) : WL P N ops (qM K R) [] σ w := aR (aC h)
theorem csr {P : Program} {N : NN} {R : jZ} {σ : Env} {w : World} {id : Nat} {l : List Oper} {y : Code} (h : WL P N l.toArray (qM (fun N σ w => CW P N y R σ w) R) l σ w) : CW P N (.seq (.region id l.toArray false) y) R σ w := aM (aF h)
theorem wan {P : Program} {N : NN} {ops : Array Oper} {R : jZ} {σ : Env} {w : World} {K : NN → Env → World → Prop} {d : Nat} {T : TypeId} {pos : String} {after : Array Edge} {x : Operand} {v : Value} (h : K N ((d, v) :: σ) w) (hx : σ.ev x = some v := by rfl) (hd : Nat.blt d N.1 = true := by rfl) : WL P N ops (qM K R) [⟨some d, .assign x, T, pos, after, none⟩] σ w := bN (aR (aC h)) hx hd
theorem wfl {P : Program} {N : NN} {ops : Array Oper} {R : jZ} {σ : Env} {w : World} {rest : List Oper} {d d2 : Nat} {T T2 : TypeId} {pos pos2 : String} {after after2 : Array Edge} {x y : Operand} {s t U : TypeId} {i off b o : Nat} {cs : Array Value} {fz : Nat × Nat} {v : Value} (hx : σ.ev x = some (.pointer (some ⟨b, o, none⟩))) (hf : eU P s i = some off) (hy : Env.ev ((d, .pointer (some ⟨b, o + off, none⟩)) :: σ) y = some (.pointer (some ⟨b, o + off, none⟩))) (ht : nU P t = some false) (hb : w.heap[b]? = some (.cells cs U fz)) (hv : nth cs.toList (o + off) = some v) (h : WL P N ops R rest ((d2, v) :: (d, .pointer (some ⟨b, o + off, none⟩)) :: σ) w) (hd : Nat.blt d N.1 = true := by rfl) (hd2 : Nat.blt d2 N.1 = true := by rfl) : WL P N ops R (⟨some d, .fieldAddr s x i, T, pos, after, none⟩ :: ⟨some d2, .load t y, T2, pos2, after2, none⟩ :: rest) σ w := iT hd (aD hx hf) (iT hd2 (aX hy ht (bI hb hv)) h)
theorem wel {P : Program} {N : NN} {ops : Array Oper} {R : jZ} {σ : Env} {w : World} {rest : List Oper} {d : Nat} {T : TypeId} {pos : String} {after : Array Edge} {t t' : TypeId} {x y : Operand} {k : IntKind} {m n : Int} (h : WL P N ops R rest ((d, .bool (decide (m = n))) :: σ) w) (hx : σ.ev x = some (.int k m) := by rfl) (hy : σ.ev y = some (.int k n) := by rfl) (hd : Nat.blt d N.1 = true := by rfl) : WL P N ops R (⟨some d, .binOp .eql t x y t', T, pos, after, none⟩ :: rest) σ w := iT hd (kK hx hy) h
end Go.W
namespace Go.Proofs.YtljadkcojnlioaaGreatDoor
open Go.Shelf
def qU : Go.Shelf.Ren := ⟨fun | 169 => 43 | n => n, fun | 70 => 77 | 9 => 9 | 0 => 0 | 72 => 80 | 37 => 78 | 127 => 121 | 3 => 3 | 5 => 5 | n => n, fun | n => n⟩
theorem FR : Go.Proofs.Lays.n169 Tryz.prog qU := {
  mixed := by kernel_rfl
  f169 := Tryz.func43.trans (congrArg some (by kernel_rfl))
  t0 := Tryz.underlying0
  a0 := Tryz.isAgg0
  z0 := Tryz.sizeOf0
  v0 := Tryz.zeroValue0
  t3 := Tryz.underlying3
  a3 := Tryz.isAgg3
  z3 := Tryz.sizeOf3
  v3 := Tryz.zeroValue3
  t9 := Tryz.underlying9
  a9 := Tryz.isAgg9
  z9 := Tryz.sizeOf9
  v9 := Tryz.zeroValue9
  t37 := Tryz.underlying78
  a37 := Tryz.isAgg78
  z37 := Tryz.sizeOf78
  v37 := Tryz.zeroValue78
  t70 := Tryz.underlying77
  a70 := Tryz.isAgg77
  z70 := Tryz.sizeOf77
  v70 := Tryz.zeroValue77
  t72 := Tryz.underlying80
  a72 := Tryz.isAgg80
  z72 := Tryz.sizeOf80
  v72 := Tryz.zeroValue80
  t127 := Tryz.underlying121
  a127 := Tryz.isAgg121
  z127 := Tryz.sizeOf121
  v127 := Tryz.zeroValue121 }
theorem rS : Builder.Extra Tryz.prog qU := {
  sizeBuilder := by kernel_rfl
  liesBuilder := by kernel_rfl
  t5 := Tryz.underlying5
  a5 := Tryz.isAgg5
  z5 := Tryz.sizeOf5
  v5 := Tryz.zeroValue5
  infoByte := by kernel_rfl
  cellsByte := by kernel_rfl
  sizeByte := by kernel_rfl
  neB5 := by decide }
open Go.RowKit in
theorem qV (B b : Nat) (l : List UInt8) (w : World) (h : Lib.IsBuilder 80 5 B b (Lib.byteCells l) w) (hBw : B ≤ w.heap.size) :
    Calls Tryz.prog 43 #[.pointer (some ⟨b, 0, none⟩)] w fun e w' => e = .returned (.string ⟨l.toArray⟩) ∧ Below B w w' := Any.Builder_String_any FR rS B b l w h hBw
def xE : Go.Shelf.Ren := ⟨fun | 137 => 41 | 217 => 69 | 266 => 97 | n => n, fun | 9 => 9 | 5 => 5 | 3 => 3 | n => n, fun | n => n⟩
theorem FT : Go.Proofs.Lays.n137 Tryz.prog xE := {
  mixed := by kernel_rfl
  f137 := Tryz.func41.trans (congrArg some (by kernel_rfl))
  f217 := Tryz.func69.trans (congrArg some (by kernel_rfl))
  f266 := Tryz.func97.trans (congrArg some (by kernel_rfl))
  t3 := Tryz.underlying3
  a3 := Tryz.isAgg3
  z3 := Tryz.sizeOf3
  v3 := Tryz.zeroValue3
  t5 := Tryz.underlying5
  a5 := Tryz.isAgg5
  z5 := Tryz.sizeOf5
  v5 := Tryz.zeroValue5
  t9 := Tryz.underlying9
  a9 := Tryz.isAgg9
  z9 := Tryz.sizeOf9
  v9 := Tryz.zeroValue9 }
open Go.RowKit in
theorem kN (s : ByteArray) (c : Int) (w : World) :
    Calls Tryz.prog 41 #[.string s, .int .u8 c] w fun e w' => e = .returned (.int .i64 (Lib.indexByte s.data.toList c.toNat.toUInt8)) ∧ w' = w := Any.strings_IndexByte FT s c w
def vJ : Go.Shelf.Ren := ⟨fun | 171 => 102 | 243 => 126 | 246 => 140 | 283 => 154 | 284 => 155 | 285 => 156 | 286 => 157 | 129 => 165 | 317 => 164 | 318 => 166 | 319 => 167 | 320 => 168 | 337 => 181 | 338 => 182 | n => n, fun | 3 => 3 | 9 => 9 | 2 => 2 | 4 => 4 | 171 => 175 | 0 => 0 | 53 => 176 | 37 => 78 | 5 => 5 | 173 => 179 | 212 => 186 | 51 => 163 | 20 => 20 | 213 => 187 | 46 => 181 | 232 => 204 | 233 => 205 | n => n, fun | 17 => 1 | 18 => 2 | 19 => 3 | n => n⟩
theorem BU : Go.Proofs.LaysM.n171 Tryz.prog vJ := {
  mixed := by kernel_rfl
  f129 := Tryz.func165.trans (congrArg some (by kernel_rfl))
  f171 := Tryz.func102.trans (congrArg some (by kernel_rfl))
  f243 := Tryz.func126.trans (congrArg some (by kernel_rfl))
  f246 := Tryz.func140.trans (congrArg some (by kernel_rfl))
  f283 := Tryz.func154.trans (congrArg some (by kernel_rfl))
  f284 := Tryz.func155.trans (congrArg some (by kernel_rfl))
  f285 := Tryz.func156.trans (congrArg some (by kernel_rfl))
  f286 := Tryz.func157.trans (congrArg some (by kernel_rfl))
  f317 := Tryz.func164.trans (congrArg some (by kernel_rfl))
  f318 := Tryz.func166.trans (congrArg some (by kernel_rfl))
  f319 := Tryz.func167.trans (congrArg some (by kernel_rfl))
  f320 := Tryz.func168.trans (congrArg some (by kernel_rfl))
  f337 := Tryz.func181.trans (congrArg some (by kernel_rfl))
  f338 := Tryz.func182.trans (congrArg some (by kernel_rfl))
  t0 := Tryz.underlying0
  a0 := Tryz.isAgg0
  z0 := Tryz.sizeOf0
  v0 := Tryz.zeroValue0
  t2 := Tryz.underlying2
  a2 := Tryz.isAgg2
  z2 := Tryz.sizeOf2
  v2 := Tryz.zeroValue2
  t3 := Tryz.underlying3
  a3 := Tryz.isAgg3
  z3 := Tryz.sizeOf3
  v3 := Tryz.zeroValue3
  t4 := Tryz.underlying4
  a4 := Tryz.isAgg4
  z4 := Tryz.sizeOf4
  v4 := Tryz.zeroValue4
  t5 := Tryz.underlying5
  a5 := Tryz.isAgg5
  z5 := Tryz.sizeOf5
  v5 := Tryz.zeroValue5
  t9 := Tryz.underlying9
  a9 := Tryz.isAgg9
  z9 := Tryz.sizeOf9
  v9 := Tryz.zeroValue9
  t20 := Tryz.underlying20
  a20 := Tryz.isAgg20
  z20 := Tryz.sizeOf20
  v20 := Tryz.zeroValue20
  t37 := Tryz.underlying78
  a37 := Tryz.isAgg78
  z37 := Tryz.sizeOf78
  v37 := Tryz.zeroValue78
  t46 := Tryz.underlying181
  a46 := Tryz.isAgg181
  z46 := Tryz.sizeOf181
  v46 := Tryz.zeroValue181
  t51 := Tryz.underlying163
  a51 := Tryz.isAgg163
  z51 := Tryz.sizeOf163
  v51 := Tryz.zeroValue163
  t53 := Tryz.underlying176
  a53 := Tryz.isAgg176
  z53 := Tryz.sizeOf176
  v53 := Tryz.zeroValue176
  t171 := Tryz.underlying175
  a171 := Tryz.isAgg175
  z171 := Tryz.sizeOf175
  v171 := Tryz.zeroValue175
  t173 := Tryz.underlying179
  a173 := Tryz.isAgg179
  z173 := Tryz.sizeOf179
  v173 := Tryz.zeroValue179
  t212 := Tryz.underlying186
  a212 := Tryz.isAgg186
  z212 := Tryz.sizeOf186
  v212 := Tryz.zeroValue186
  t213 := Tryz.underlying187
  a213 := Tryz.isAgg187
  z213 := Tryz.sizeOf187
  t232 := Tryz.underlying204
  a232 := Tryz.isAgg204
  z232 := Tryz.sizeOf204
  v232 := Tryz.zeroValue204
  t233 := Tryz.underlying205
  a233 := Tryz.isAgg205
  z233 := Tryz.sizeOf205
  v233 := Tryz.zeroValue205
  g17 := by kernel_rfl
  g18 := by kernel_rfl
  g19 := by kernel_rfl
  i0 := by kernel_rfl
  i2 := by kernel_rfl
  i3 := by kernel_rfl
  i4 := by kernel_rfl
  i5 := by kernel_rfl
  i9 := by kernel_rfl
  i20 := by kernel_rfl
  i37 := by kernel_rfl
  i46 := by kernel_rfl
  i51 := by kernel_rfl
  i53 := by kernel_rfl
  i171 := by kernel_rfl
  i173 := by kernel_rfl
  i212 := by kernel_rfl
  i232 := by kernel_rfl
  i233 := by kernel_rfl
  m17 := by kernel_rfl
  m18 := by kernel_rfl
  m19 := by kernel_rfl }
open Go.RowKit Go.Sort Go.Lib in
theorem vI (n : Int) (h0 : -9223372036854775808 ≤ n) (h1 : n ≤ 9223372036854775807) (w : World) (htab : Lib.TabIs Tryz.prog w "internal/strconv.uint64pow10" .u64 Lib.pow10Tab) :
    Calls Tryz.prog 102 #[.int .i64 n] w fun e w' => e = .returned (.string ⟨(Lib.itoa n).toArray⟩) ∧ ∃ k os, w' = grow (w.drewN k) os := Any.strconv_Itoa BU n h0 h1 w htab
def xD : Go.Shelf.Ren := ⟨fun | 143 => 144 | 219 => 159 | 217 => 69 | 225 => 169 | 224 => 170 | 267 => 171 | 266 => 97 | 314 => 183 | n => n, fun | 9 => 9 | 3 => 3 | 4 => 4 | 5 => 5 | 46 => 181 | 146 => 197 | 51 => 163 | n => n, fun | 1 => 0 | n => n⟩
theorem FS : Go.Proofs.Lays.n143 Tryz.prog xD := {
  mixed := by kernel_rfl
  f143 := Tryz.func144.trans (congrArg some (by kernel_rfl))
  f217 := Tryz.func69.trans (congrArg some (by kernel_rfl))
  f219 := Tryz.func159.trans (congrArg some (by kernel_rfl))
  f224 := Tryz.func170.trans (congrArg some (by kernel_rfl))
  f225 := Tryz.func169.trans (congrArg some (by kernel_rfl))
  f266 := Tryz.func97.trans (congrArg some (by kernel_rfl))
  f267 := Tryz.func171.trans (congrArg some (by kernel_rfl))
  f314 := Tryz.func183.trans (congrArg some (by kernel_rfl))
  t3 := Tryz.underlying3
  a3 := Tryz.isAgg3
  z3 := Tryz.sizeOf3
  v3 := Tryz.zeroValue3
  t4 := Tryz.underlying4
  a4 := Tryz.isAgg4
  z4 := Tryz.sizeOf4
  v4 := Tryz.zeroValue4
  t5 := Tryz.underlying5
  a5 := Tryz.isAgg5
  z5 := Tryz.sizeOf5
  v5 := Tryz.zeroValue5
  t9 := Tryz.underlying9
  a9 := Tryz.isAgg9
  z9 := Tryz.sizeOf9
  v9 := Tryz.zeroValue9
  t46 := Tryz.underlying181
  a46 := Tryz.isAgg181
  z46 := Tryz.sizeOf181
  v46 := Tryz.zeroValue181
  t51 := Tryz.underlying163
  a51 := Tryz.isAgg163
  z51 := Tryz.sizeOf163
  v51 := Tryz.zeroValue163
  t146 := Tryz.underlying197
  a146 := Tryz.isAgg197
  z146 := Tryz.sizeOf197
  v146 := Tryz.zeroValue197
  g1 := by kernel_rfl }
open Go.RowKit Go.Lib in
theorem uE (s sub : ByteArray) (m : Int) (w : World) (hs : s.size < 4294967281) (hm : w.cell? ⟨0, 0, none⟩ = some (.int .i64 m)) :
    Calls Tryz.prog 144 #[.string s, .string sub] w fun e w' => e = .returned (.int .i64 (Lib.index s.data.toList sub.data.toList)) ∧ w' = w := Any.strings_Index FS s sub m w hs hm
def vK : Go.Shelf.Ren := ⟨fun | 143 => 144 | 219 => 159 | 217 => 69 | 225 => 169 | 224 => 170 | 267 => 171 | 266 => 97 | 314 => 183 | n => n, fun | 9 => 9 | 3 => 3 | 4 => 4 | 5 => 5 | 46 => 181 | 146 => 197 | 51 => 163 | n => n, fun | 1 => 0 | n => n⟩
theorem Tryz.laysM143 : Go.Proofs.LaysM.n143 Tryz.prog vK := {
  mixed := by kernel_rfl
  f143 := Tryz.func144.trans (congrArg some (by kernel_rfl))
  f217 := Tryz.func69.trans (congrArg some (by kernel_rfl))
  f219 := Tryz.func159.trans (congrArg some (by kernel_rfl))
  f224 := Tryz.func170.trans (congrArg some (by kernel_rfl))
  f225 := Tryz.func169.trans (congrArg some (by kernel_rfl))
  f266 := Tryz.func97.trans (congrArg some (by kernel_rfl))
  f267 := Tryz.func171.trans (congrArg some (by kernel_rfl))
  f314 := Tryz.func183.trans (congrArg some (by kernel_rfl))
  t3 := Tryz.underlying3
  a3 := Tryz.isAgg3
  z3 := Tryz.sizeOf3
  v3 := Tryz.zeroValue3
  t4 := Tryz.underlying4
  a4 := Tryz.isAgg4
  z4 := Tryz.sizeOf4
  v4 := Tryz.zeroValue4
  t5 := Tryz.underlying5
  a5 := Tryz.isAgg5
  z5 := Tryz.sizeOf5
  v5 := Tryz.zeroValue5
  t9 := Tryz.underlying9
  a9 := Tryz.isAgg9
  z9 := Tryz.sizeOf9
  v9 := Tryz.zeroValue9
  t46 := Tryz.underlying181
  a46 := Tryz.isAgg181
  z46 := Tryz.sizeOf181
  v46 := Tryz.zeroValue181
  t51 := Tryz.underlying163
  a51 := Tryz.isAgg163
  z51 := Tryz.sizeOf163
  v51 := Tryz.zeroValue163
  t146 := Tryz.underlying197
  a146 := Tryz.isAgg197
  z146 := Tryz.sizeOf197
  v146 := Tryz.zeroValue197
  g1 := by kernel_rfl
  i3 := by kernel_rfl
  i4 := by kernel_rfl
  i5 := by kernel_rfl
  i9 := by kernel_rfl
  i46 := by kernel_rfl
  i51 := by kernel_rfl
  i146 := by kernel_rfl
  m1 := by kernel_rfl
  s1_3 := fun w h => Go.Proofs.cell_of_shapedOpen_int (zero := #[.int .i64 0]) (t := 3) h (of_decide_eq_true (by kernel_rfl)) (by kernel_rfl) rfl (by kernel_rfl) (by kernel_rfl) Tryz.underlying3 }
def BF : Go.Shelf.Ren := ⟨fun | 6 => 151 | 15 => 163 | 14 => 162 | 28 => 180 | 29 => 165 | 20 => 172 | 21 => 173 | 22 => 174 | 23 => 175 | 24 => 176 | 25 => 177 | 26 => 178 | 27 => 179 | 46 => 184 | 47 => 185 | 48 => 186 | 49 => 187 | 50 => 188 | 57 => 189 | n => n, fun | 22 => 24 | 24 => 56 | 25 => 174 | 3 => 3 | 39 => 181 | 0 => 0 | 53 => 163 | 55 => 176 | 4 => 4 | 46 => 190 | 45 => 189 | 50 => 194 | 5 => 5 | 9 => 9 | 66 => 199 | 70 => 90 | 76 => 206 | 77 => 134 | n => n, fun | n => n⟩
theorem BG : Go.Proofs.SlLaysF0.n6 Tryz.prog BF := {
  mixed := by kernel_rfl
  f6 := ⟨Tryz.f151.name, by decide, Tryz.func151.trans (congrArg some (by kernel_rfl))⟩
  f14 := ⟨Tryz.f162.name, by decide, Tryz.func162.trans (congrArg some (by kernel_rfl))⟩
  f15 := Tryz.func163.trans (congrArg some (by kernel_rfl))
  f20 := ⟨Tryz.f172.name, by decide, Tryz.func172.trans (congrArg some (by kernel_rfl))⟩
  f21 := ⟨Tryz.f173.name, by decide, Tryz.func173.trans (congrArg some (by kernel_rfl))⟩
  f22 := ⟨Tryz.f174.name, by decide, Tryz.func174.trans (congrArg some (by kernel_rfl))⟩
  f23 := ⟨Tryz.f175.name, by decide, Tryz.func175.trans (congrArg some (by kernel_rfl))⟩
  f24 := ⟨Tryz.f176.name, by decide, Tryz.func176.trans (congrArg some (by kernel_rfl))⟩
  f25 := ⟨Tryz.f177.name, by decide, Tryz.func177.trans (congrArg some (by kernel_rfl))⟩
  f26 := ⟨Tryz.f178.name, by decide, Tryz.func178.trans (congrArg some (by kernel_rfl))⟩
  f27 := ⟨Tryz.f179.name, by decide, Tryz.func179.trans (congrArg some (by kernel_rfl))⟩
  f28 := Tryz.func180.trans (congrArg some (by kernel_rfl))
  f29 := Tryz.func165.trans (congrArg some (by kernel_rfl))
  f46 := ⟨Tryz.f184.name, by decide, Tryz.func184.trans (congrArg some (by kernel_rfl))⟩
  f47 := Tryz.func185.trans (congrArg some (by kernel_rfl))
  f48 := Tryz.func186.trans (congrArg some (by kernel_rfl))
  f49 := ⟨Tryz.f187.name, by decide, Tryz.func187.trans (congrArg some (by kernel_rfl))⟩
  f50 := ⟨Tryz.f188.name, by decide, Tryz.func188.trans (congrArg some (by kernel_rfl))⟩
  f57 := ⟨Tryz.f189.name, by decide, Tryz.func189.trans (congrArg some (by kernel_rfl))⟩
  t0 := Tryz.underlying0
  a0 := Tryz.isAgg0
  z0 := Tryz.sizeOf0
  v0 := Tryz.zeroValue0
  t3 := Tryz.underlying3
  a3 := Tryz.isAgg3
  z3 := Tryz.sizeOf3
  v3 := Tryz.zeroValue3
  t4 := Tryz.underlying4
  a4 := Tryz.isAgg4
  z4 := Tryz.sizeOf4
  v4 := Tryz.zeroValue4
  t5 := Tryz.underlying5
  a5 := Tryz.isAgg5
  z5 := Tryz.sizeOf5
  v5 := Tryz.zeroValue5
  t9 := Tryz.underlying9
  a9 := Tryz.isAgg9
  z9 := Tryz.sizeOf9
  v9 := Tryz.zeroValue9
  t22 := Tryz.underlying24
  a22 := Tryz.isAgg24
  z22 := Tryz.sizeOf24
  v22 := Tryz.zeroValue24
  t25 := Tryz.underlying174
  a25 := Tryz.isAgg174
  z25 := Tryz.sizeOf174
  v25 := Tryz.zeroValue174
  t39 := Tryz.underlying181
  a39 := Tryz.isAgg181
  z39 := Tryz.sizeOf181
  v39 := Tryz.zeroValue181
  t45 := Tryz.underlying189
  a45 := Tryz.isAgg189
  z45 := Tryz.sizeOf189
  v45 := Tryz.zeroValue189
  t46 := Tryz.underlying190
  a46 := Tryz.isAgg190
  z46 := Tryz.sizeOf190
  v46 := Tryz.zeroValue190
  t50 := Tryz.underlying194
  a50 := Tryz.isAgg194
  z50 := Tryz.sizeOf194
  v50 := Tryz.zeroValue194
  t53 := Tryz.underlying163
  a53 := Tryz.isAgg163
  z53 := Tryz.sizeOf163
  v53 := Tryz.zeroValue163
  t55 := Tryz.underlying176
  a55 := Tryz.isAgg176
  z55 := Tryz.sizeOf176
  v55 := Tryz.zeroValue176
  t66 := Tryz.underlying199
  a66 := Tryz.isAgg199
  z66 := Tryz.sizeOf199
  v66 := Tryz.zeroValue199
  t70 := Tryz.underlying90
  a70 := Tryz.isAgg90
  z70 := Tryz.sizeOf90
  v70 := Tryz.zeroValue90
  t76 := Tryz.underlying206
  a76 := Tryz.isAgg206
  z76 := Tryz.sizeOf206
  v76 := Tryz.zeroValue206
  t77 := Tryz.underlying134
  a77 := Tryz.isAgg134
  z77 := Tryz.sizeOf134
  v77 := Tryz.zeroValue134 }
end Go.Proofs.YtljadkcojnlioaaGreatDoor
namespace Go.W
theorem wrapU {k : IntKind} (hk : k.signed = false) (n : Nat) : k.wrap (n : Int) = ((n % 2 ^ k.bits : Nat) : Int) := by
  cases k <;> simp [IntKind.signed] at hk <;> simp [IntKind.wrap, IntKind.signed, IntKind.bits]
def i64 (n : Int) : Int := if n % 18446744073709551616 < 9223372036854775808 then n % 18446744073709551616 else n % 18446744073709551616 - 18446744073709551616
section
variable {P : Program} {σ : Env} {w : World} {dst : Option Nat} {T : TypeId} {pos : String} {after : Array Edge} {g : Option (Nat × Bool)}
theorem kJ {x y : Operand} {t t' : TypeId} {k yk : IntKind} {m n : Nat} {x' z : Int} (hx : σ.ev x = some (.int k x')) (hy : σ.ev y = some (.int yk z)) (hm : x' = ((m : Nat) : Int)) (hz : z = ((n : Nat) : Int)) (hn : n ≤ k.bits) :
    Ex P σ ⟨dst, .binOp .shr t x y t', T, pos, after, g⟩ w (.int k ((m / 2 ^ n : Nat) : Int)) w := fun ρ h => by
  subst hm hz
  have h0 : ¬ ((n : Nat) : Int) < 0 := by omega
  have h2 : ((m : Nat) : Int).fdiv (2 ^ n) = ((m / 2 ^ n : Nat) : Int) := by rw [Int.fdiv_eq_ediv_of_nonneg _ (by exact_mod_cast Nat.zero_le (2 ^ n))]; push_cast; rfl
  simp only [execOp, h x _ hx, h y _ hy]
  simp only [eqGuard, Go.binOp, Op.shift, Sem.run_bind, Sem.run_pure, Result.andThen_ok, if_neg h0, Int.toNat_natCast, Nat.min_eq_left hn, h2]
  simp
theorem JD {k : IntKind} {m n : Nat} (hk : k.signed = false) (hm : m < 2 ^ k.bits) (hn : n < 2 ^ k.bits) : (BitVec.ofInt k.bits m).toNat = m ∧ (BitVec.ofInt k.bits n).toNat = n := by
  constructor
  · rw [BitVec.ofInt_natCast, BitVec.toNat_ofNat, Nat.mod_eq_of_lt hm]
  · rw [BitVec.ofInt_natCast, BitVec.toNat_ofNat, Nat.mod_eq_of_lt hn]
theorem kM {x y : Operand} {t t' : TypeId} {k : IntKind} {m n : Nat} {x' z : Int} (hx : σ.ev x = some (.int k x')) (hy : σ.ev y = some (.int k z)) (hm : x' = ((m : Nat) : Int)) (hz : z = ((n : Nat) : Int)) (hk : k.signed = false) (h1 : m < 2 ^ k.bits) (h2 : n < 2 ^ k.bits) :
    Ex P σ ⟨dst, .binOp .and t x y t', T, pos, after, g⟩ w (.int k ((m &&& n : Nat) : Int)) w := fun ρ h => by
  subst hm hz
  obtain ⟨e1, e2⟩ := JD hk h1 h2
  simp only [execOp, h x _ hx, h y _ hy]
  have hr := wrapU hk (m &&& n)
  rw [Nat.mod_eq_of_lt (Nat.lt_of_le_of_lt Nat.and_le_left h1)] at hr
  simp only [eqGuard, Go.binOp, Op.intBits, Sem.run_bind, Sem.run_pure, Result.andThen_ok, BitVec.toNat_and, e1, e2, hr]
  simp
theorem jS {x y : Operand} {t t' : TypeId} {k : IntKind} {m n : Nat} {x' z : Int} (hx : σ.ev x = some (.int k x')) (hy : σ.ev y = some (.int k z)) (hm : x' = ((m : Nat) : Int)) (hz : z = ((n : Nat) : Int)) (hk : k.signed = false) (h1 : m < 2 ^ k.bits) (h2 : n < 2 ^ k.bits) :
    Ex P σ ⟨dst, .binOp .or t x y t', T, pos, after, g⟩ w (.int k ((m ||| n : Nat) : Int)) w := fun ρ h => by
  subst hm hz
  obtain ⟨e1, e2⟩ := JD hk h1 h2
  simp only [execOp, h x _ hx, h y _ hy]
  have hr := wrapU hk (m ||| n)
  rw [Nat.mod_eq_of_lt (Nat.or_lt_two_pow h1 h2)] at hr
  simp only [eqGuard, Go.binOp, Op.intBits, Sem.run_bind, Sem.run_pure, Result.andThen_ok, BitVec.toNat_or, e1, e2, hr]
  simp
theorem ON {x : Operand} {t t' : TypeId} {k k' : IntKind} {n : Int} (hx : σ.ev x = some (.int k n)) (ht : P.underlying t = some (.int k)) (ht' : P.underlying t' = some (.int k')) :
    Ex P σ ⟨dst, .convert t t' x, T, pos, after, g⟩ w (.int k' (k'.wrap n)) w := fun ρ h => by
  simp [execOp, h x _ hx, convert, run_underlying ht, run_underlying ht', Conv.intToInt]
theorem fM {x : Operand} {t t' : TypeId} {k k' : IntKind} {n : Int} (hx : σ.ev x = some (.int k n)) (ht : P.underlying t = some (.int k)) (ht' : P.underlying t' = some (.int k')) (h1 : k'.min ≤ n) (h2 : n ≤ k'.max) :
    Ex P σ ⟨dst, .convert t t' x, T, pos, after, g⟩ w (.int k' n) w := by
  have := ON (w := w) (dst := dst) (T := T) (pos := pos) (after := after) (g := g) hx ht ht'
  rwa [uG h1 h2] at this
theorem vB {x y : Operand} {t t' : TypeId} {k : IntKind} {m n : Nat} {x' z : Int} (hx : σ.ev x = some (.int k x')) (hy : σ.ev y = some (.int k z)) (hm : x' = ((m : Nat) : Int)) (hz : z = ((n : Nat) : Int)) (hn : 0 < n) (hmax : (m : Int) ≤ k.max) :
    Ex P σ ⟨dst, .binOp .quo t x y t', T, pos, after, g⟩ w (.int k ((m / n : Nat) : Int)) w := fun ρ h => by
  subst hm hz
  have hmin : k.min ≤ 0 := by cases k <;> simp [IntKind.min, IntKind.signed, IntKind.bits]
  have hle : m / n ≤ m := Nat.div_le_self _ _
  generalize hq : m / n = q at *
  have hr : k.wrap ((q : Nat) : Int) = ((q : Nat) : Int) := uG (by omega) (by omega)
  simp only [execOp, h x _ hx, h y _ hy]
  simp only [eqGuard, Go.binOp, Op.intDiv, Sem.run_bind, Sem.run_pure, Result.andThen_ok]
  have : (Int.tdiv (m : Int) n) = ((q : Nat) : Int) := by rw [Int.tdiv_eq_ediv_of_nonneg (by omega), ← hq]; rfl
  simp [this, hr, show ¬ (n : Nat) = 0 by omega]
theorem FB {x y : Operand} {t t' : TypeId} {k : IntKind} {m n : Nat} {x' z : Int} (hx : σ.ev x = some (.int k x')) (hy : σ.ev y = some (.int k z)) (hm : x' = ((m : Nat) : Int)) (hz : z = ((n : Nat) : Int)) (hn : 0 < n) :
    Ex P σ ⟨dst, .binOp .rem t x y t', T, pos, after, g⟩ w (.int k ((m % n : Nat) : Int)) w := fun ρ h => by
  subst hm hz
  simp only [execOp, h x _ hx, h y _ hy]
  simp only [eqGuard, Go.binOp, Op.intDiv, Sem.run_bind, Sem.run_pure, Result.andThen_ok]
  have : (Int.tmod (m : Int) n) = ((m % n : Nat) : Int) := by rw [Int.tmod_eq_emod_of_nonneg (by omega)]; rfl
  simp [this, show ¬ (n : Nat) = 0 by omega]
end
def RB : Rel Nat := fun _ _ vs n => vs = [.int .u8 (n : Int)] ∧ n < 256
def bstr (ds : List Nat) : ByteArray := ⟨(ds.map UInt8.ofNat).toArray⟩
theorem JC {a b : List Nat} (ha : ∀ x, x ∈ a → x < 256) (hb : ∀ x, x ∈ b → x < 256) : bstr a = bstr b ↔ a = b := by
  constructor
  · intro h
    have h1 : a.map UInt8.ofNat = b.map UInt8.ofNat := by
      have := congrArg (fun x : ByteArray => x.data.toList) h
      simpa [bstr] using this
    clear h
    induction a generalizing b with
    | nil => cases b with | nil => rfl | cons _ _ => simp at h1
    | cons x a ih =>
      cases b with
      | nil => simp at h1
      | cons y b =>
        simp only [List.map_cons, List.cons.injEq] at h1
        have hx := ha x (by simp)
        have hy := hb y (by simp)
        have h2 := congrArg UInt8.toNat h1.1
        simp [UInt8.toNat_ofNat'] at h2
        rw [ih (fun z hz => ha z (List.mem_cons_of_mem _ hz)) (fun z hz => hb z (List.mem_cons_of_mem _ hz)) h1.2]
        congr 1
        omega
  · intro h; rw [h]
section
variable {P : Program} {σ : Env} {w : World} {dst : Option Nat} {T : TypeId} {pos : String} {after : Array Edge} {g : Option (Nat × Bool)}
theorem CS : ∀ (ds : List Nat) (s : ByteArray), (ds.map (fun n : Nat => (n : Int))).foldl (fun r n => r.push (UInt8.ofNat n.toNat)) s = ⟨s.data ++ (ds.map UInt8.ofNat).toArray⟩
  | [], s => by simp
  | d :: ds, s => by
    simp only [List.map_cons, List.foldl_cons]
    rw [CS ds]
    simp [ByteArray.push]
theorem yW {x : Operand} {t t' e : TypeId} {v : Value} {X : List Nat} {ds : List Nat} (hx : σ.ev x = some v) (hv : RSl 1 RB X w v ds) (ht : P.underlying t = some (.slice e)) (he : P.underlying e = some (.int .u8)) (ht' : P.underlying t' = some .string) :
    Ex P σ ⟨dst, .convert t t' x, T, pos, after, g⟩ w (.string (bstr ds)) w := fun ρ h => by
  obtain ⟨a, c, rfl, hc, hr⟩ := hv
  have hrun : (Conv.bytesToString (.slice a ds.length c)).run P w = .ok (.string (bstr ds)) w := by
    cases a with
    | none =>
      cases ds with
      | nil => simp [Conv.bytesToString, bstr]; rfl
      | cons d ds => obtain ⟨_, _, _, h, _⟩ := hr 0 (by simp); cases h
    | some a =>
      have hl : (loadCells a ds.length).run P w = .ok ((ds.map (fun n : Nat => (n : Int))).map (Value.int .u8)).toArray w := by
        cases hd : ds with
        | nil => simp [loadCells, loadCellsFrom]
        | cons d0 dr =>
          obtain ⟨b, o, _, ha, _⟩ := hr 0 (by simp [hd])
          cases ha
          rw [← hd]
          have := lA (P := P) (w := w) b o ds.length 0 #[] (ds.map fun n : Nat => Value.int .u8 (n : Int)) (by simp) (fun j v hj => by
            simp only [List.getElem?_map, Option.map_eq_some_iff] at hj
            obtain ⟨d, hdj, rfl⟩ := hj
            obtain ⟨hlt, hdd⟩ := List.getElem?_eq_some_iff.1 hdj
            obtain ⟨b', o', vs, ha', _, _, hcs, hvs, _⟩ := hr j hlt
            cases ha'
            have := hcs 0 _ (by rw [hvs]; rfl)
            simpa [hdd] using this)
          simpa [loadCells, Function.comp_def] using this
      rw [run_bytesToString w a ds.length c _ hl, CS]
      simp [bstr]
  simp [execOp, h x _ hx, run_convert_bytes_string w t t' e a ds.length c ht he ht', hrun]
theorem IS {x : Operand} {lo hi : Option Operand} {t e : TypeId} {sz a len c} {l h : Nat} {lv hv : Option Int} (hx : σ.ev x = some (.slice a len c)) (ht : P.underlying t = some (.slice e)) (hs : iJ P e = some sz)
    (hlo : (lo.map σ.ev) = lv.map (fun n => some (Value.int .i64 n))) (hhi : (hi.map σ.ev) = hv.map (fun n => some (Value.int .i64 n))) (hl : lv.getD 0 = (l : Nat)) (hh : hv.getD len = (h : Nat)) (hlh : l ≤ h) (hhc : h ≤ c) (hlen : len ≤ c) :
    Ex P σ ⟨dst, .slice t x lo hi none, T, pos, after, g⟩ w (.slice (if c = l then a else a.map (·.add (l * sz))) (h - l) (c - l)) w := fun ρ hρ => by
  obtain ⟨inf, hin, hsz⟩ := Option.map_eq_some_iff.1 hs
  have hL : lo.map ρ = lv.map (fun n => Value.int .i64 n) := by
    cases lo <;> cases lv <;> simp_all
    exact hρ _ _ hlo
  have hH : hi.map ρ = hv.map (fun n => Value.int .i64 n) := by
    cases hi <;> cases hv <;> simp_all
    exact hρ _ _ hhi
  have hb : (Instr.sliceBounds true len c (lo.map ρ) (hi.map ρ) none).run P w = .ok (l, h, c) w := by
    rw [hL, hH]
    cases lv with
    | none =>
      have : l = 0 := by simpa using hl.symm
      subst this
      cases hv with
      | none => have : h = len := by simp at hh; omega
                subst this; simp [Instr.sliceBounds]
      | some n =>
        have : n = (h : Int) := by simpa using hh
        subst this
        simp [Instr.sliceBounds, Instr.sliceBound, asIntOf, hhc]
    | some m =>
      have : m = (l : Int) := by simpa using hl
      subst this
      cases hv with
      | none => have : h = len := by simp at hh; omega
                subst this; simp [Instr.sliceBounds, Instr.sliceBound, asIntOf, hlh]
      | some n =>
        have : n = (h : Int) := by simpa using hh
        subst this
        simp [Instr.sliceBounds, Instr.sliceBound, asIntOf, hhc, hlh]
  simp only [execOp, hρ x _ hx, Instr.sliceAt, run_underlying ht, Sem.run_bind, Result.andThen_ok, Instr.slice, hb]
  simp [sizeOf, typeInfo, hin, hsz, hb]
end
section
variable {P : Program} {N : NN} {R : jZ} {σ : Env} {w : World} {ops : Array Oper} {rest : List Oper} {d : Nat} {T : TypeId} {pos : String} {after : Array Edge}
def UX (P : Program) (t : TypeId) : Option (TypeId × Nat × Nat × Array Value) :=
  match P.underlying t with
  | some (.slice e) => match P.info? e with
    | some i => match i.zero with
      | some z => if z.cells.size = i.size then some (e, i.size, i.bytes, z.cells) else none
      | none => none
    | none => none
  | _ => none
def tH (z : Array Value) (n : Nat) : List Value := (List.replicate n z.toList).flatten
theorem BY (z : Array Value) (n : Nat) : (tH z n).length = n * z.size := by simp [tH]
theorem BM {z : Array Value} {n k : Nat} (hz : 0 < z.size) (h : k < n) : (madeCells z n)[k]? = some (z[k % z.size]'(Nat.mod_lt _ hz)) := by
  simp [madeCells, h, Nat.mod_lt _ hz]
theorem BZ {z : Array Value} : ∀ {n k : Nat} (hz : 0 < z.size), k < n * z.size → (tH z n)[k]? = some (z[k % z.size]'(Nat.mod_lt _ hz))
  | 0, k, _, h => by simp at h
  | n + 1, k, hz, h => by
    have e : tH z (n + 1) = z.toList ++ tH z n := by simp [tH, List.replicate_succ]
    rw [e, List.getElem?_append]
    split
    · rename_i hk
      simp at hk
      simp [hk, Nat.mod_eq_of_lt hk]
    · rename_i hk
      simp at hk
      rw [Nat.add_mul] at h
      rw [BZ hz (by simp; omega)]
      simp only [Array.length_toList, Option.some.injEq]
      congr 1
      rw [Nat.mod_eq_sub_mod hk]
theorem yE {z : Array Value} {n l : Nat} (hz : 0 < z.size) (hl : l ≤ n) : ((madeCells z (n * z.size)).toList.take (l * z.size)) = tH z l := by
  have hle : l * z.size ≤ n * z.size := Nat.mul_le_mul_right _ hl
  apply List.ext_getElem?
  intro k
  rw [List.getElem?_take]
  split
  · rename_i hk
    rw [BZ hz hk]
    have := BM (z := z) (n := n * z.size) (k := k) hz (by omega)
    simpa using this
  · rename_i hk
    rw [List.getElem?_eq_none]
    rw [BY]; omega
theorem MO {t e : TypeId} {x y : Operand} {kl kc : IntKind} {lv cv : Int} {sz bytes len c : Nat} {z : Array Value} (hd : Nat.blt d N.1 = true) (hx : σ.ev x = some (.int kl lv)) (hy : σ.ev y = some (.int kc cv)) (hf : UX P t = some (e, sz, bytes, z))
    (hlv : lv = (len : Nat)) (hcv : cv = (c : Nat)) (hlc : len ≤ c) (hz : 0 < z.size) (hb : bytes * c ≤ 140737488355328) (hcm : c ≤ 140737488355328)
    (h : ∀ b w', OwnS w' e sz (some ⟨b, 0, none⟩) len c (tH z len) (some b) → w.heap.size = b → Evo [] w w' → WL P N ops R rest ((d, .slice (some ⟨b, 0, none⟩) len c) :: σ) w') :
    WL P N ops R (⟨some d, .makeSlice t x y, T, pos, after, none⟩ :: rest) σ w := by
  subst hlv hcv
  simp only [UX] at hf
  split at hf <;> try cases hf
  rename_i e' ht
  split at hf <;> try cases hf
  rename_i i hi
  split at hf <;> try cases hf
  rename_i z' hz'
  split at hf <;> try cases hf
  rename_i hsz
  have hbb : (i.bytes : Int) * (c : Int) ≤ 281474976710656 := by
    have : ((i.bytes * c : Nat) : Int) ≤ 281474976710656 := by omega
    rwa [Int.natCast_mul] at this
  have hr := run_make (P := P) w t _ i _ ht hi hz' kl kc len c (by omega) (by omega) hbb (by omega)
  simp only [Int.toNat_natCast] at hr
  refine iT (w' := w.alloc (.cells (madeCells z'.cells (c * i.size)) e)) hd (fun ρ ha => ?_) (h w.heap.size _ ⟨by rw [BY, hsz], .inr ⟨w.heap.size, c, _, rfl, rfl, heap_alloc_new w _, hlc, by unfold maxLen; omega, size_madeCells _ _, ?_⟩⟩ rfl (qR w _))
  · simp [execOp, ha x _ hx, ha y _ hy, hr]
  · rw [← hsz]; exact yE hz hlc
end
def rZ (xs : List Value) (o : Nat) (vs : List Value) : List Value := xs.take o ++ vs ++ xs.drop (o + vs.length)
theorem PZ {xs vs : List Value} {o : Nat} (h : o + vs.length ≤ xs.length) : (rZ xs o vs).length = xs.length := by
  simp only [rZ, List.length_append, List.length_take, List.length_drop]; omega
theorem LA {xs vs : List Value} {o m : Nat} (h : o + vs.length ≤ m) (hm : m ≤ xs.length) : (rZ xs o vs).take m = rZ (xs.take m) o vs := by
  simp only [rZ]
  have h1 : (xs.take o ++ vs).length = o + vs.length := by simp only [List.length_append, List.length_take]; omega
  rw [List.take_append, h1, List.take_of_length_le (by omega), List.take_take, Nat.min_eq_left (by omega), List.drop_take]
theorem OwnS.put {w w' : World} {e : TypeId} {sz : Nat} {a : Option Addr} {n c : Nat} {xs vs : List Value} {ob : Option Nat} {g : Nat} {cur : Array Value} {U : TypeId} {o k : Nat} (h : OwnS w e sz a n c xs ob) (hg : ob = some g) (hb : w.heap[g]? = some (.cells cur U (0, 0))) (ho : o = k * sz) (hk : k < n) (hv : vs.length = sz)
    (hb' : w'.heap[g]? = some (.cells (cur.toList.take o ++ vs ++ cur.toList.drop (o + sz)).toArray U (0, 0))) : OwnS w' e sz a n c (rZ xs o vs) ob := by
  subst hg ho
  have hl := h.1
  have hle : k * sz + sz ≤ n * sz := by have : (k + 1) * sz ≤ n * sz := Nat.mul_le_mul_right _ hk; rw [Nat.add_mul] at this; omega
  have hxl : xs.length = n * sz := hl
  refine ⟨by rw [PZ (by rw [hv]; omega)]; exact hl, ?_⟩
  rcases h.2 with ⟨_, _, h2⟩ | ⟨g', cap, cur', hg, hv2, hbb, hn, hc, hs, ht⟩
  · cases h2
  · cases hg
    rw [hb] at hbb
    cases hbb
    have hncs : n * sz ≤ cap * sz := Nat.mul_le_mul_right _ hn
    refine .inr ⟨g, cap, _, rfl, hv2, hb', hn, hc, ?_, ?_⟩
    · simp only [List.size_toArray, List.length_append, List.length_take, List.length_drop, Array.length_toList]; omega
    · have := LA (xs := cur.toList) (vs := vs) (o := k * sz) (m := n * sz) (by rw [hv]; omega) (by simp only [Array.length_toList]; omega)
      rw [ht] at this
      rw [← this]
      simp only [rZ, hv]
structure Sl where
  a : Option Addr
  n : Nat
  c : Nat
  ob : Option Nat
section
variable {w w' : World} {e : TypeId} {sz N : Nat} {S : Nat → Sl} {xs : Nat → List Value} {X : List Nat} {i : Nat}
end
abbrev rep (m : Nat) (mk : List Value) : List Value := (List.replicate m mk).flatten
section
variable {w w' : World} {e : TypeId} {sz N : Nat} {s t : Nat → Sl} {mk : Nat → List Value} {X : List Nat} {i : Nat}
end
def sb (s : ByteArray) (n : Nat) : Nat := (s.get! n).toNat
theorem iC (s : ByteArray) (n : Nat) : sb s n < 256 := (s.get! n).toNat_lt
theorem tQ (s : ByteArray) (n : Nat) (h : n < s.size) : sb s n = (s[n]'h).toNat := by
  unfold sb
  simp [ByteArray.get!, getElem!_pos, h]
  rfl
section
variable {P : Program} {σ : Env} {w : World} {dst : Option Nat} {T : TypeId} {pos : String} {after : Array Edge} {g : Option (Nat × Bool)}
theorem fN {x i : Operand} {t : TypeId} {k : IntKind} {s : ByteArray} {z : Int} {n : Nat} (hx : σ.ev x = some (.string s)) (hi : σ.ev i = some (.int k z)) (ht : P.underlying t = some .string) (hz : z = (n : Int)) (hn : n < s.size) :
    Ex P σ ⟨dst, .index t x i, T, pos, after, g⟩ w (.int .u8 (sb s n : Nat)) w := fun ρ h => by
  subst hz
  have hc : 0 ≤ (n : Int) ∧ (n : Int) < s.size := ⟨by omega, by omega⟩
  have := run_index_string (P := P) w t s k n ht
  rw [dif_pos hc] at this
  simp only [execOp, h x _ hx, h i _ hi, Sem.run_bind, this, Result.andThen_ok, Sem.run_pure, tQ s n hn]
  rfl
theorem yU {x lo hi : Operand} {t : TypeId} {s : ByteArray} {lv hv : Int} {l h : Nat} (hx : σ.ev x = some (.string s)) (hlo : σ.ev lo = some (.int .i64 lv)) (hhi : σ.ev hi = some (.int .i64 hv)) (ht : P.underlying t = some .string) (hl : lv = (l : Int)) (hh : hv = (h : Int)) (hlh : l ≤ h) (hhc : h ≤ s.size) :
    Ex P σ ⟨dst, .slice t x (some lo) (some hi) none, T, pos, after, g⟩ w (.string (s.extract l h)) w := fun ρ hρ => by
  subst hl hh
  have := run_slice_string (P := P) w t s .i64 .i64 (l : Int) (h : Int) ht (by omega) (by omega) (by omega)
  simp only [execOp, hρ x _ hx, Option.map_some, Option.map_none, hρ lo _ hlo, hρ hi _ hhi, Instr.sliceAt, run_underlying ht, Sem.run_bind, Result.andThen_ok, this, Int.toNat_natCast, Sem.run_pure]
theorem lC {x y : Operand} {t t' : TypeId} {a b : ByteArray} (hx : σ.ev x = some (.string a)) (hy : σ.ev y = some (.string b)) (hab : a.size + b.size ≤ 9223372036854775807) :
    Ex P σ ⟨dst, .binOp .add t x y t', T, pos, after, g⟩ w (.string (a ++ b)) w := fun ρ h => by
  simp [execOp, h x _ hx, h y _ hy, eqGuard, Go.binOp, run_string_add_sum (P := P) w a b hab]
theorem fY {x : Operand} {t t' : TypeId} {k k' : IntKind} {z : Int} (n : Nat) (hx : σ.ev x = some (.int k z)) (ht : P.underlying t = some (.int k)) (ht' : P.underlying t' = some (.int k')) (hz : z = (n : Int)) (h2 : (n : Int) ≤ k'.max) :
    Ex P σ ⟨dst, .convert t t' x, T, pos, after, g⟩ w (.int k' (n : Nat)) w := by
  subst hz
  exact fM hx ht ht' (by cases k' <;> simp [IntKind.min, IntKind.signed, IntKind.bits] <;> omega) h2
theorem lH {x y : Operand} {ats : Array TypeId} {k k' : IntKind} {m n : Int} (hx : σ.ev x = some (.int k m)) (hy : σ.ev y = some (.int k' n)) :
    Ex P σ ⟨dst, .call ⟨.builtin .min, #[x, y], ats⟩, T, pos, after, g⟩ w (.int k (if n < m then n else m)) w := fun ρ h => by
  simp [execOp, resolve, h x _ hx, h y _ hy, invoke, builtin, run_min_int2]
end
section
variable {P : Program} {N : NN} {R : jZ} {σ : Env} {w : World} {ops : Array Oper} {rest : List Oper} {d : Nat} {T : TypeId} {pos : String} {after : Array Edge}
theorem CC {x : Operand} {t : TypeId} {s : ByteArray} (hd : Nat.blt d N.1 = true) (hx : σ.ev x = some (.string s)) (ht : P.underlying t = some .string)
    (h : ∀ b w', w'.heap[b]? = some (.stringIter s 0) → w.heap.size = b → Evo [] w w' → WL P N ops R rest ((d, .pointer (some ⟨b, 0, none⟩)) :: σ) w') :
    WL P N ops R (⟨some d, .range t x, T, pos, after, none⟩ :: rest) σ w := by
  refine iT (w' := w.alloc (.stringIter s 0)) hd (fun ρ ha => ?_) (h _ _ (xC w _) rfl (qR w _))
  simp only [execOp, ha x _ hx, Sem.run_bind, run_range_string w t s ht, Result.andThen_ok, Sem.run_pure]
  rfl
theorem MD (w : World) (b : Nat) (o : Obj) : Evo [b] w { w with heap := w.heap.setIfInBounds b o } :=
  ⟨rfl, rfl, rfl, by simp, fun k _ hx => by
    have : b ≠ k := fun e => hx (by simp [e])
    simp [Array.getElem?_setIfInBounds_ne this]⟩
theorem HE {x : Operand} {s : ByteArray} {b p : Nat} (hd : Nat.blt d N.1 = true) (hx : σ.ev x = some (.pointer (some ⟨b, 0, none⟩))) (hb : w.heap[b]? = some (.stringIter s p)) (hp : p < s.size)
    (h : ∀ w', w'.heap[b]? = some (.stringIter s (p + (Utf8.decode s p).2)) → Evo [b] w w' → WL P N ops R rest ((d, .tuple #[.bool true, .int .i64 (p : Nat), .int .i32 ((Utf8.decode s p).1 : Nat)]) :: σ) w') :
    WL P N ops R (⟨some d, .next x true, T, pos, after, none⟩ :: rest) σ w := by
  have hlt : b < w.heap.size := fF hb
  refine iT (w' := { w with heap := w.heap.setIfInBounds b (.stringIter s (p + (Utf8.decode s p).2)) }) hd (fun ρ ha => ?_) (h _ (by simp [hlt]) (MD w b _))
  simp only [execOp, ha x _ hx, Instr.next, getObj, setObj, Sem.run_bind, Sem.run, hb, Result.andThen, hp, if_true]
  simp [goInt, Sem.run]
theorem RG {x : Operand} {s : ByteArray} {b p : Nat} (hd : Nat.blt d N.1 = true) (hx : σ.ev x = some (.pointer (some ⟨b, 0, none⟩))) (hb : w.heap[b]? = some (.stringIter s p)) (hp : ¬ p < s.size)
    (h : WL P N ops R rest ((d, .tuple #[.bool false]) :: σ) w) :
    WL P N ops R (⟨some d, .next x true, T, pos, after, none⟩ :: rest) σ w := by
  refine iT (w' := w) hd (fun ρ ha => ?_) h
  simp only [execOp, ha x _ hx, Instr.next, getObj, setObj, Sem.run_bind, Sem.run, hb, Result.andThen, hp, if_false]
  simp [goInt, Sem.run]
end
section
variable {P : Program} {σ : Env} {w : World} {dst : Option Nat} {T : TypeId} {pos : String} {after : Array Edge} {g : Option (Nat × Bool)}
end
section
variable {P : Program} {N : NN} {R : jZ} {σ : Env} {w : World}
end
def cL (s : ByteArray) (n : Nat) : Int × Nat :=
  if n < s.size ∧ ¬ ((Utf8.decode s n).1 = 65533 ∧ (Utf8.decode s n).2 = 1) then (((Utf8.decode s n).1 : Nat), (Utf8.decode s n).2) else (-1, 0)
section
variable {P : Program} {N : NN} {ops : Array Oper} {R : jZ} {rest : List Oper} {σ : Env} {w w' : World} {d : Nat} {op : Op} {dst : Option Nat} {T : TypeId} {pos : String} {after : Array Edge} {g : Option (Nat × Bool)}
end
end Go.W
namespace Go.W
open Go.RowKit
section
variable {P : Program} {σ : Env} {w : World}
end
section
variable {P : Program} {N : NN} {R : jZ} {σ : Env} {w : World}
end
section
variable {P : Program} {N : NN} {R : jZ} {σ : Env} {w : World} {l n : Nat}
end
section
variable {P : Program} {N : NN} {R : jZ} {σ : Env} {w w' : World} {ops : Array Oper} {rest : List Oper} {n d : Nat} {op : Op} {T : TypeId} {pos : String} {after : Array Edge}
end
def XB (n0 : Nat) (w : World) : List Nat := (List.range w.heap.size).filter fun b => decide (n0 ≤ b)
theorem EP {n0 b : Nat} {w : World} : b ∈ XB n0 w ↔ b < w.heap.size ∧ n0 ≤ b := by simp [XB]
theorem WZ {n0 : Nat} {w w' : World} (h : Below n0 w w') : Evo (XB n0 w) w w' := ⟨h.os, h.tape, h.output, h.size, fun b hb hx => h.block b (by
  by_cases h1 : n0 ≤ b
  · exact absurd (EP.2 ⟨hb, h1⟩) hx
  · omega)⟩
theorem lL {P : Program} {σ : Env} {w : World} {dst : Option Nat} {T : TypeId} {pos : String} {after : Array Edge} {g : Option (Nat × Bool)} {x y : Operand} {ats : Array TypeId} {k k' : IntKind} {m n : Int} (hx : σ.ev x = some (.int k m)) (hy : σ.ev y = some (.int k' n)) :
    Ex P σ ⟨dst, .call ⟨.builtin .max, #[x, y], ats⟩, T, pos, after, g⟩ w (.int k (if m < n then n else m)) w := fun ρ h => by
  simp [execOp, resolve, h x _ hx, h y _ hy, invoke, builtin, run_max_int2]
section
variable {P : Program} {N : NN} {ops : Array Oper} {R : jZ} {rest : List Oper} {σ : Env} {w w' : World} {d : Nat} {dst : Option Nat} {T : TypeId} {pos : String} {after : Array Edge} {g : Option (Nat × Bool)}
end
section
variable {P : Program} {N : NN} {ops : Array Oper} {R : jZ} {rest : List Oper} {σ : Env} {w w' : World} {d : Nat} {dst : Option Nat} {T : TypeId} {pos : String} {after : Array Edge} {g : Option (Nat × Bool)}
end
section
variable {P : Program} {N : NN} {R : jZ} {σ : Env} {w w' : World} {dst : Option Nat} {T : TypeId} {pos : String} {after : Array Edge} {g : Option (Nat × Bool)}
end
section
variable {P : Program} {σ : Env} {w : World} {dst : Option Nat} {T : TypeId} {pos : String} {after : Array Edge} {g : Option (Nat × Bool)}
end
section
variable {P : Program} {N : NN} {R : jZ} {σ : Env} {w w' : World} {ops : Array Oper} {rest : List Oper} {n d : Nat} {op : Op} {T : TypeId} {pos : String} {after : Array Edge}
end
abbrev pan (v : Value) : List PanicEntry := [{ v := v, recovered := false }]
def RetP (Φ : Value → World → Prop) (Ψ : Value → World → Prop) : Ending → World → Prop
  | .returned v, w => Φ v w
  | .panicked c, w => ∃ v, c = pan v ∧ Ψ v w
  | .outgrown, _ => False
theorem RetP.of {Φ Ψ : Value → World → Prop} {e : Ending} {w : World} (h : Ret Φ e w) : RetP Φ Ψ e w := by obtain ⟨v, rfl, h⟩ := h; exact h
section
variable {P : Program} {N : NN} {R : jZ} {σ : Env} {w : World} {ops : Array Oper} {rest : List Oper} {T : TypeId} {pos : String} {after : Array Edge} {d : Nat}
theorem args_eq {σ : Env} {a : Act} {xs : Array Operand} {vs : List Value} (hag : HC σ a.eval) (hxs : xs.toList.map σ.ev = vs.map some) : xs.map a.eval = vs.toArray := by
  apply Array.ext'
  rw [Array.toList_map]
  generalize xs.toList = l at *
  clear xs
  revert vs
  induction l with
  | nil => intro vs hxs; cases vs with | nil => rfl | cons _ _ => simp at hxs
  | cons x l ih =>
    intro vs hxs
    cases vs with
    | nil => simp at hxs
    | cons v vs =>
      simp only [List.map_cons, List.cons.injEq] at hxs
      simp only [List.map_cons, hag x v hxs.1]
      exact congrArg _ (ih hxs.2)
theorem RI {dst : Option Nat} {f : FuncId} {xs : Array Operand} {ats : Array TypeId} {vs : List Value} {Φ Ψ : Value → World → Prop} (hgo : dW P f) (hxs : xs.toList.map σ.ev = vs.map some)
    (hc : Calls P f vs.toArray w (RetP Φ Ψ)) (hd : ∀ k, dst = some k → Nat.blt k N.1 = true) (hp : ∀ v w', Ψ v w' → R (.panic (pan v)) N σ w')
    (h : ∀ v w', Φ v w' → WL P N ops R rest (match dst with | some k => (k, v) :: σ | none => σ) w') :
    WL P N ops R (⟨dst, .call ⟨.value (.func f), xs, ats⟩, T, pos, after, none⟩ :: rest) σ w := fun a ha => wpList_plain rfl fun K hK => by
  have hargs := args_eq ha.agrees hxs
  obtain ⟨fn, hf, hn, hbd⟩ := hgo
  unfold Oper.wp
  have hrun : (execOp a.eval ⟨dst, .call ⟨.value (.func f), xs, ats⟩, T, pos, after, none⟩).run P w = .ok (.enter f vs.toArray) w := by
    have hn' : ¬ fn.name = "runtime.NumGoroutine" := by simpa using hn
    have hb' : ¬ fn.body = none := by intro hh; simp [hh] at hbd
    simp only [execOp, resolve, hargs]
    simp [Act.eval, Deferred.ofValue, invoke, callFunc, hf, hn', hb']
  rw [hrun]
  show Calls P f vs.toArray w _
  refine hc.mono ?_
  intro e w' he
  cases e with
  | returned v =>
    cases dst with
    | none => exact hK _ _ (h v w' he a ha)
    | some k => exact hK _ _ (h v w' he _ (ha.put (of_decide_eq_true (by simpa using hd k rfl)) v))
  | panicked c => obtain ⟨v, rfl, hΨ⟩ := he; exact ⟨N, σ, ha, hp v w' hΨ⟩
  | outgrown => exact he.elim
theorem cT {f : FuncId} {xs : Array Operand} {ats : Array TypeId} {vs : List Value} {Φ Ψ : Value → World → Prop} (hgo : dW P f) (hxs : xs.toList.map σ.ev = vs.map some)
    (hc : Calls P f vs.toArray w (RetP Φ Ψ)) (hd : Nat.blt d N.1 = true) (hp : ∀ v w', Ψ v w' → R (.panic (pan v)) N σ w') (h : ∀ v w', Φ v w' → WL P N ops R rest ((d, v) :: σ) w') :
    WL P N ops R (⟨some d, .call ⟨.value (.func f), xs, ats⟩, T, pos, after, none⟩ :: rest) σ w := RI hgo hxs hc (fun k hk => by cases hk; exact hd) hp h
theorem RF {dst : Option Nat} {x : Operand} {t : TypeId} {v : Value} (hx : σ.ev x = some (.iface t v)) (h : R (.panic (pan (.iface t v))) N σ w) : WL P N ops R (⟨dst, .panic x, T, pos, after, none⟩ :: rest) σ w :=
  fun a ha => wpList_plain rfl fun K hK => by
    unfold Oper.wp
    have hrun : (execOp a.eval ⟨dst, .panic x, T, pos, after, none⟩).run P w = .halt (.panic (.iface t v)) w := by
      simp only [execOp, ha.agrees x _ hx]
      rfl
    rw [hrun]
    exact ⟨N, σ, ha, h⟩
theorem WH {dst : Option Nat} {g : Option (Nat × Bool)} {x : Operand} {t : TypeId} {v : Value} (hx : σ.ev x = some v) (ht : ∀ w, (Instr.makeInterface t v).run P w = .ok (.iface t v) w) : Ex P σ ⟨dst, .makeInterface t x, T, pos, after, g⟩ w (.iface t v) w := fun ρ h => by
  simp [execOp, h x _ hx, ht]
abbrev dfr (f : FuncId) (cap : Array Value) : Deferred := { target := .fn (.func f) cap, args := #[] }
theorem RH {x : Operand} {ats : Array TypeId} {f : FuncId} {cap : Array Value} (hx : σ.ev x = some (.func (.func f) #[] cap)) (h : WL P (N.1, dfr f cap :: N.2) ops R rest σ w) :
    WL P N ops R (⟨none, .defer ⟨.value x, #[], ats⟩, T, pos, after, none⟩ :: rest) σ w := fun a ha => wpList_plain rfl fun K hK => by
  unfold Oper.wp
  have hrun : (execOp a.eval ⟨none, .defer ⟨.value x, #[], ats⟩, T, pos, after, none⟩).run P w = .ok (.defer (dfr f cap)) w := by
    simp only [execOp, resolve, ha.agrees x _ hx]
    simp [Deferred.ofValue]
  rw [hrun]
  exact hK _ _ (h _ ⟨ha.1, by show dfr f cap :: a.defers = _; rw [ha.2.1], ha.2.2⟩)
end
section
variable {P : Program} {σ : Env} {w : World}
theorem cU {fn : Func} {Φ Ψ : Value → World → Prop} {N : NN} (h : pP P fn (Ret Φ) .ret N σ w) : pP P fn (RetP Φ Ψ) .ret N σ w :=
  ⟨h.1, fun a ha => by obtain ⟨v, h1, h2⟩ := h.2 a ha; exact ⟨v, h1, RetP.of h2⟩⟩
theorem WX {n : Nat} {fn : Func} {Φ Ψ : Value → World → Prop} {v : Value} (h : Ψ v w) : pP P fn (RetP Φ Ψ) (.panic (pan v)) (n, []) σ w := ⟨rfl, v, rfl, h⟩
def WY (P : Program) (fn : Func) (E : Ending → World → Prop) : jZ
  | .normal, N, σ, w => ∀ a, Fits N σ a → Leaves P fn a.tmps E N.2 .returning w
  | .ret, N, σ, w => ∀ a, Fits N σ a → Leaves P fn a.tmps E N.2 .returning w
  | .panic chain, N, σ, w => ∀ a, Fits N σ a → Leaves P fn a.tmps E N.2 (.panicking chain) w
  | .outgrown, _, _, w => E .outgrown w
  | .exit _, _, _, _ => False
  | .goto _, _, _, _ => False
theorem FG {f : FuncId} {fn : Func} {c : Code} {args : List Value} {E : Ending → World → Prop} {N : Nat}
    (hf : P.funcs[f]? = some fn) (hb : fn.body = some c) (hN : fn.ntmps = N) (hle' : Nat.ble args.length N = true)
    (h : CW P (N, []) c (WY P fn E) (pG 0 args) w) : Calls P f args.toArray w E := by
  have hle : args.length ≤ N := Nat.le_of_ble_eq_true hle'; refine calls_of_wp_defers hf hb (wp_mono (h _ ⟨?_, rfl, ?_⟩) ?_)
  · simp [hN]; omega
  · intro t v hv
    obtain ⟨_, h2⟩ := rC args 0 t v hv; simp only [Nat.sub_zero] at h2; have hlt : t < args.length := (List.getElem?_eq_some_iff.1 h2).1
    have h3 : args[t] = v := by rw [List.getElem?_eq_getElem hlt] at h2; exact Option.some.inj h2
    simp [Array.getElem?_append, hlt, h3]
  · intro e a' w' hq
    cases e with
    | normal => obtain ⟨N', σ', hf', hk⟩ := hq; show Leaves _ _ _ _ _ _ _; rw [hf'.2.1]; exact hk a' hf'
    | ret => obtain ⟨N', σ', hf', hk⟩ := hq; show Leaves _ _ _ _ _ _ _; rw [hf'.2.1]; exact hk a' hf'
    | panic ch => obtain ⟨N', σ', hf', hk⟩ := hq; show Leaves _ _ _ _ _ _ _; rw [hf'.2.1]; exact hk a' hf'
    | outgrown => obtain ⟨_, hk⟩ := hq; exact hk
    | exit i => obtain ⟨_, _, _, hk⟩ := hq; exact hk
    | goto l => obtain ⟨_, _, _, hk⟩ := hq; exact hk
theorem LS {fn : Func} {tmps : Array Value} {E : Ending → World → Prop} {f : FuncId} {g : Func} {cap : Array Value} {u : FrameMode} (hg : P.funcs[f]? = some g) (hn : (g.name == "runtime.NumGoroutine") = false) (hb : g.body.isNone = false) (hu : u ≠ .run)
    (h : CallsD P f cap u w fun e u' w' => match e with
      | .returned _ => Leaves P fn tmps E [] (settle u') w'
      | .panicked chain => Leaves P fn tmps E [] (raised u' chain) w'
      | .outgrown => E .outgrown w') : Leaves P fn tmps E [dfr f cap] u w := by
  refine leaves_cons hu ?_ (h.mono ?_)
  · have hn' : ¬ g.name = "runtime.NumGoroutine" := by simpa using hn
    have hb' : ¬ g.body = none := by intro hh; simp [hh] at hb
    simp [invoke, callFunc, hg, hn', hb']
  · intro e u' w' he
    cases e <;> exact he
end
section
variable {P : Program} {σ : Env} {w : World} {dst : Option Nat} {T : TypeId} {pos : String} {after : Array Edge} {g : Option (Nat × Bool)}
theorem SG (n : Nat) {t e : TypeId} {a : Option Addr} {k c : Nat} (ht : P.underlying t = some (.slice e)) : (Op.equalIn (n + 1) t (.slice a k c) (.slice none 0 0)).run P w = .ok a.isNone w := by
  cases a <;> simp [Op.equalIn, run_underlying ht]
theorem ex_eqSl {x y : Operand} {t e t' : TypeId} {a : Option Addr} {k c : Nat} (hx : σ.ev x = some (.slice a k c)) (hy : σ.ev y = some (.slice none 0 0)) (ht : P.underlying t = some (.slice e)) :
    Ex P σ ⟨dst, .binOp .eql t x y t', T, pos, after, g⟩ w (.bool a.isNone) w := fun ρ hρ => by
  have h1 : (Op.equal t (.slice a k c) (.slice none 0 0)).run P w = .ok a.isNone w := SG 9999 ht
  simp [execOp, hρ x _ hx, hρ y _ hy, eqGuard, Go.binOp, h1]
theorem AT {x : Operand} {t t' : TypeId} {k : IntKind} {n : Int} (hx : σ.ev x = some (.int k n)) (ht : P.underlying t = some (.int k)) (ht' : P.underlying t' = some .string) :
    Ex P σ ⟨dst, .convert t t' x, T, pos, after, g⟩ w (.string (Utf8.encode n)) w := fun ρ h => by
  simp [execOp, h x _ hx, convert, run_underlying ht, run_underlying ht', Conv.intToString]
theorem eC {x i : Operand} {t : TypeId} {k : IntKind} {n sz b o len c : Nat} {a : Option Addr} (hx : σ.ev x = some (.slice a len c)) (hi : σ.ev i = some (.int k (n : Nat))) (ha : a = some ⟨b, o, none⟩) (he : vE P t = some sz) (hlt : n < len) :
    Ex P σ ⟨dst, .indexAddr t x i, T, pos, after, g⟩ w (.pointer (some ⟨b, o + n * sz, none⟩)) w := by
  subst ha; exact iE hx hi he hlt
theorem lG {x lo : Operand} {t : TypeId} {s : ByteArray} {lv : Int} {l : Nat} (hx : σ.ev x = some (.string s)) (hlo : σ.ev lo = some (.int .i64 lv)) (ht : P.underlying t = some .string) (hl : lv = (l : Int)) (hlh : l ≤ s.size) :
    Ex P σ ⟨dst, .slice t x (some lo) none none, T, pos, after, g⟩ w (.string (s.extract l s.size)) w := fun ρ hρ => by
  subst hl
  have := run_slice_string_l (P := P) w t s ht .i64 (l : Int) (by omega) (by omega)
  simp only [execOp, hρ x _ hx, Option.map_some, Option.map_none, hρ lo _ hlo, Instr.sliceAt, run_underlying ht, Sem.run_bind, Result.andThen_ok, this, Int.toNat_natCast, Sem.run_pure]
theorem QV {x hi : Operand} {t : TypeId} {s : ByteArray} {hv : Int} {h : Nat} (hx : σ.ev x = some (.string s)) (hhi : σ.ev hi = some (.int .i64 hv)) (ht : P.underlying t = some .string) (hh : hv = (h : Int)) (hhc : h ≤ s.size) :
    Ex P σ ⟨dst, .slice t x none (some hi) none, T, pos, after, g⟩ w (.string (s.extract 0 h)) w := fun ρ hρ => by
  subst hh
  have := run_slice_string_h (P := P) w t s ht .i64 (h : Int) (by omega) (by omega)
  simp only [execOp, hρ x _ hx, Option.map_some, Option.map_none, hρ hi _ hhi, Instr.sliceAt, run_underlying ht, Sem.run_bind, Result.andThen_ok, this, Int.toNat_natCast, Sem.run_pure]
end
section
variable {P : Program} {σ : Env} {w : World} {dst : Option Nat} {T : TypeId} {pos : String} {after : Array Edge} {g : Option (Nat × Bool)}
theorem bZ {x i : Operand} {t : TypeId} {k : IntKind} {z : Int} {n sz b o len c : Nat} {a : Option Addr} (hx : σ.ev x = some (.slice a len c)) (hi : σ.ev i = some (.int k z)) (ha : a = some ⟨b, o, none⟩) (hz : z = n) (he : vE P t = some sz) (hlt : n < len) :
    Ex P σ ⟨dst, .indexAddr t x i, T, pos, after, g⟩ w (.pointer (some ⟨b, o + n * sz, none⟩)) w := by subst ha; exact gH hx hi hz he hlt
theorem pA {t : TypeId} {m : Nat} (hs : iJ P t = some m) (w : World) : (sizeOf t).run P w = .ok m w := by
  simp only [iJ] at hs
  cases hi : P.info? t with
  | none => rw [hi] at hs; cases hs
  | some i => rw [hi] at hs; simp at hs; subst hs; simp [sizeOf, typeInfo, hi, go_sem]
theorem PP {t : TypeId} {cs : Array Value} {off m : Nat} (w : World) (ht : nU P t = some true) (hs : iJ P t = some m) : (part t cs off).run P w = .ok (.agg (cs.extract off (off + m))) w := by
  simp [part, pB ht, pA hs]
theorem OP {x i : Operand} {t e : TypeId} {k : IntKind} {z : Int} {n len sz : Nat} {cs : Array Value} {v : Value} (hx : σ.ev x = some (.agg cs)) (hi : σ.ev i = some (.int k z)) (ht : P.underlying t = some (.array len e)) (hz : z = (n : Int)) (hn : n < len) (hs : iJ P e = some sz)
    (hp : ∀ w, (part e cs (n * sz)).run P w = .ok v w) : Ex P σ ⟨dst, .index t x i, T, pos, after, g⟩ w v w := fun ρ h => by
  subst hz
  have hc : 0 ≤ (n : Int) ∧ (n : Int) < len := ⟨by omega, by omega⟩
  have hp' := hp w
  simp [pA hs, go_sem] at hp'
  simp [execOp, h x _ hx, h i _ hi, Instr.index, run_underlying ht, asIntOf, hc, hn, pA hs, go_sem]
  rw [hp']; rfl
theorem kL {x i : Operand} {t e : TypeId} {k : IntKind} {z : Int} {n len sz b o : Nat} (hx : σ.ev x = some (.pointer (some ⟨b, o, none⟩))) (hi : σ.ev i = some (.int k z)) (ht : P.underlying t = some (.array len e)) (hz : z = (n : Int)) (hn : n < len) (hs : iJ P e = some sz) :
    Ex P σ ⟨dst, .indexAddr t x i, T, pos, after, g⟩ w (.pointer (some ⟨b, o + n * sz, none⟩)) w := fun ρ h => by
  subst hz
  have hc : 0 ≤ (n : Int) ∧ (n : Int) < len := ⟨by omega, by omega⟩
  simp [execOp, h x _ hx, h i _ hi, Instr.indexAt, run_underlying ht, Instr.sureAddr, asIntOf, hc, hn, pA hs, Addr.add, go_sem]
theorem tD {t e : TypeId} {len sz : Nat} {parts : Array (Nat × Operand)} {vs : List (Nat × Value)} {zero cells : Array Value} (ht : P.underlying t = some (.array len e)) (hz : pF P t = some zero) (hs : iJ P e = some sz)
    (hp : parts.toList.map (fun p => (p.1, σ.ev p.2)) = vs.map (fun q => (q.1, some q.2))) (hf : Instr.fill (fun i => some (i * sz, sz)) zero vs = some cells) : Ex P σ ⟨dst, .build t parts, T, pos, after, g⟩ w (.agg cells) w := fun ρ ha => by
  obtain ⟨z, hz1, hz2⟩ := Option.map_eq_some_iff.1 hz
  obtain ⟨i, hi, hz'⟩ := Option.bind_eq_some_iff.1 hz1
  have hparts : (parts.map fun p => (p.1, ρ p.2)).toList = vs := by
    rw [Array.toList_map]
    clear hf
    revert hp
    generalize parts.toList = l
    intro hp
    induction l generalizing vs with
    | nil => cases vs with | nil => rfl | cons _ _ => simp at hp
    | cons p l ih =>
      cases vs with
      | nil => simp at hp
      | cons q vs =>
        simp only [List.map_cons, List.cons.injEq, Prod.mk.injEq] at hp
        obtain ⟨⟨h1, h2⟩, h3⟩ := hp
        rw [List.map_cons, ih h3, h1, ha _ _ h2]
  have hzero : (zeroValue t).run P w = .ok z w := by simp [zeroValue, typeInfo, hi, hz', go_sem]
  subst hz2
  rw [Array.toList_map] at hparts
  simp only [execOp, Instr.build, hzero, Sem.run_bind, Result.andThen_ok, run_underlying ht, pA hs, Array.toList_map, hparts, hf, Sem.run_pure]
theorem FA {x lo : Operand} {t : TypeId} {s r : ByteArray} {lv : Int} {l : Nat} (hx : σ.ev x = some (.string s)) (hlo : σ.ev lo = some (.int .i64 lv)) (ht : P.underlying t = some .string) (hl : lv = (l : Int)) (hlh : l ≤ s.size) (hr : s.extract l s.size = r) :
    Ex P σ ⟨dst, .slice t x (some lo) none none, T, pos, after, g⟩ w (.string r) w := by subst hr; exact lG hx hlo ht hl hlh
theorem sG {x lo hi : Operand} {t : TypeId} {s r : ByteArray} {lv hv : Int} {l h : Nat} (hx : σ.ev x = some (.string s)) (hlo : σ.ev lo = some (.int .i64 lv)) (hhi : σ.ev hi = some (.int .i64 hv)) (ht : P.underlying t = some .string) (hl : lv = (l : Int)) (hh : hv = (h : Int)) (hlh : l ≤ h) (hhc : h ≤ s.size) (hr : s.extract l h = r) :
    Ex P σ ⟨dst, .slice t x (some lo) (some hi) none, T, pos, after, g⟩ w (.string r) w := by subst hr; exact yU hx hlo hhi ht hl hh hlh hhc
theorem kV {x i : Operand} {t : TypeId} {k : IntKind} {s : ByteArray} {z : Int} {n m : Nat} (hx : σ.ev x = some (.string s)) (hi : σ.ev i = some (.int k z)) (ht : P.underlying t = some .string) (hz : z = (n : Int)) (hn : n < s.size) (hr : sb s n = m) :
    Ex P σ ⟨dst, .index t x i, T, pos, after, g⟩ w (.int .u8 (m : Nat)) w := by subst hr; exact fN hx hi ht hz hn
theorem OQ {x y : Operand} {t t' : TypeId} {m n r : Int} (hx : σ.ev x = some (.int .i64 m)) (hy : σ.ev y = some (.int .i64 n)) (hr : m + n = r) (h1 : -9223372036854775808 ≤ r) (h2 : r ≤ 9223372036854775807) :
    Ex P σ ⟨dst, .binOp .add t x y t', T, pos, after, g⟩ w (.int .i64 r) w := by subst hr; exact aI hx hy h1 h2
end
section
variable {P : Program} {N : NN} {R : jZ} {σ : Env} {w : World} {ops : Array Oper} {rest : List Oper} {T : TypeId} {pos : String} {after : Array Edge}
theorem qL {t U : TypeId} {x y : Operand} {b : Nat} {f1 f2 f3 f4 v0 v1 g1 g2 g3 g4 v6 v7 : Value} (hx : σ.ev x = some (.pointer (some ⟨b, 2, none⟩))) (hy : σ.ev y = some (.agg #[f1, f2, f3, f4])) (hs : iJ P t = some 4)
    (h1 : AllOne [f1, f2, f3, f4]) (hb : w.heap[b]? = some (.cells #[v0, v1, g1, g2, g3, g4, v6, v7] U (0, 0)))
    (h : ∀ w', w'.heap[b]? = some (.cells #[v0, v1, f1, f2, f3, f4, v6, v7] U (0, 0)) → Evo [b] w w' → WL P N ops R rest σ w') :
    WL P N ops R (⟨none, .store t x y, T, pos, after, none⟩ :: rest) σ w := by
  refine kB (v := .agg #[f1, f2, f3, f4]) hx hy hs rfl (fun u hu => h1.mem u hu) hb (by show 2 + 4 ≤ 8; omega) ?_
  intro w' hb' he
  exact h w' hb' he
end
end Go.W
namespace Go.W
section
variable {P : Program} {σ : Env} {w : World} {dst : Option Nat} {T : TypeId} {pos : String} {after : Array Edge} {g : Option (Nat × Bool)}
theorem fJ {op : BinOp} {xt yt : TypeId} {x y : Operand} {a b r : Value} (hx : σ.ev x = some a) (hy : σ.ev y = some b) (h : ∀ w, (do eqGuard op xt x y a b; binOp op xt a b : Sem Value).run P w = .ok r w) : Ex P σ ⟨dst, .binOp op xt x y yt, T, pos, after, g⟩ w r w := fun ρ ha => by
  have h1 := h w
  simp only [Sem.run_bind] at h1
  simp only [execOp, ha _ _ hx, ha _ _ hy, Sem.run_bind, h1, Result.andThen_ok, Sem.run_pure]
theorem rY {b o : Nat} {vs : List Value} (h : ∀ j v, vs[j]? = some v → w.cell? ⟨b, o + j, none⟩ = some v) : (loadCells ⟨b, o, none⟩ vs.length).run P w = .ok vs.toArray w := by
  have := lA (P := P) (w := w) b o vs.length 0 #[] vs rfl (fun j v hj => by rw [Nat.zero_add]; exact h j v hj)
  simpa [loadCells] using this
def iQ (l : List Nat) : List Value := l.map fun c => Value.int .u8 (c : Nat)
theorem tJ : ∀ (l : List Nat) (s : ByteArray), l.foldl (fun r (n : Nat) => r.push (UInt8.ofNat ((n : Int)).toNat)) s = s ++ bstr l
  | [], s => by
    show s = s ++ ⟨#[]⟩
    apply ByteArray.ext; simp
  | c :: l, s => by
    rw [List.foldl_cons, tJ l]
    apply ByteArray.ext
    simp [bstr, ByteArray.data_push]
theorem yC {P : Program} {w : World} (f : Value → ByteArray → Sem (ForInStep ByteArray))
    (hf : ∀ (n : Int) (r : ByteArray), (f (.int .i32 n) r).run P w = .ok (.yield (r ++ Utf8.encode n)) w) :
    ∀ (ns : List Int) (s : ByteArray), (forIn (ns.map (Value.int .i32)) s f).run P w = .ok (ns.foldl (fun r n => r ++ Utf8.encode n) s) w := by
  intro ns
  induction ns with
  | nil => intro s; simp [Sem.run_pure]
  | cons n ns ih =>
    intro s
    simp only [List.map_cons, List.forIn_cons, Sem.run_bind, hf, Result.andThen, List.foldl_cons]
    exact ih _
theorem IT {x : Operand} {t t' e : TypeId} {b o n c : Nat} {l : List Int} (hx : σ.ev x = some (.slice (some ⟨b, o, none⟩) n c)) (hs : P.underlying t = some (.slice e)) (he : P.underlying e = some (.int .i32)) (hd : P.underlying t' = some .string)
    (hn : l.length = n) (hc : ∀ j v, (l.map (Value.int .i32))[j]? = some v → w.cell? ⟨b, o + j, none⟩ = some v) : Ex P σ ⟨dst, .convert t t' x, T, pos, after, g⟩ w (.string (l.foldl (fun r n => r ++ Utf8.encode n) ByteArray.empty)) w := fun ρ h => by
  have h1 : (convert t t' (.slice (some ⟨b, o, none⟩) n c)).run P w = (Conv.runesToString (.slice (some ⟨b, o, none⟩) n c)).run P w := by
    simp [convert, run_underlying hs, run_underlying hd, run_underlying he]
  have h3 : (loadCells ⟨b, o, none⟩ n).run P w = .ok (l.map (Value.int .i32)).toArray w := by
    have := rY (P := P) (w := w) (b := b) (o := o) (vs := l.map (Value.int .i32)) hc
    rw [show (l.map (Value.int .i32)).length = n by simp [hn]] at this
    exact this
  have h2 : (Conv.runesToString (.slice (some ⟨b, o, none⟩) n c)).run P w = .ok (.string (l.foldl (fun r n => r ++ Utf8.encode n) ByteArray.empty)) w := by
    unfold Conv.runesToString
    simp only [Sem.run_bind, h3, Result.andThen, List.forIn_toArray]
    rw [yC _ (by intro n r; simp [Sem.run_pure])]
    simp [Sem.run_pure]
  simp only [execOp, h x _ hx, Sem.run_bind, h1, h2, Result.andThen_ok, Sem.run_pure]
end
theorem sK {l : List Nat} (h : ∀ b, b ∈ l → b < 256) : Lib.byteCells (bstr l).data.toList = iQ l := by
  simp only [Lib.byteCells, bstr, iQ, List.map_map]
  refine List.map_congr_left fun b hb => ?_
  have := h b hb
  simp [Nat.mod_eq_of_lt this]
theorem Src.strB {P : Program} {w : World} (s : ByteArray) : Src P w 1 (.string s) s.size (Lib.byteCells s.data.toList) :=
  ⟨fun _ => by simp [Builtin.lenOf], fun w2 _ => Lib.run_firstCells_string (P := P) (w := w2) 1 s, by rw [Lib.byteCells_length, Nat.mul_one]; rfl, fun u hu => by simp only [Lib.byteCells, List.mem_map] at hu; obtain ⟨b, _, rfl⟩ := hu; rfl⟩
theorem Src.bstr {P : Program} {w : World} {l : List Nat} (h : ∀ b, b ∈ l → b < 256) : Src P w 1 (.string (bstr l)) l.length (iQ l) := by
  have hsz : (Go.W.bstr l).size = l.length := by simp [Go.W.bstr, ByteArray.size]
  have h1 := Src.strB (P := P) (w := w) (Go.W.bstr l)
  rw [sK h, hsz] at h1
  exact h1
end Go.W
namespace Go.Proofs.YtljadkcojnlioaaGreatDoor
open Go.RowKit Go.W
abbrev iv (n : Int) : Value := .int .i64 n
abbrev sv (s : ByteArray) : Value := .string s
inductive Rx where
  | mk (kind r : Int) (ranges : List (Int × Int)) (min max : Int) (lazy : Bool) (cap : Int) (name : ByteArray) (kids : List Rx)
def Rx.kind : Rx → Int | .mk k _ _ _ _ _ _ _ _ => k
def Rx.r : Rx → Int | .mk _ r _ _ _ _ _ _ _ => r
def Rx.ranges : Rx → List (Int × Int) | .mk _ _ l _ _ _ _ _ _ => l
def Rx.min : Rx → Int | .mk _ _ _ m _ _ _ _ _ => m
def Rx.max : Rx → Int | .mk _ _ _ _ m _ _ _ _ => m
def Rx.lazy : Rx → Bool | .mk _ _ _ _ _ z _ _ _ => z
def Rx.cap : Rx → Int | .mk _ _ _ _ _ _ c _ _ => c
def Rx.name : Rx → ByteArray | .mk _ _ _ _ _ _ _ n _ => n
def Rx.kids : Rx → List Rx | .mk _ _ _ _ _ _ _ _ l => l
def RRg : Rel (Int × Int) := fun _ _ vs g => vs = [.int .i32 g.1, .int .i32 g.2]
theorem rnil0 {α : Type} {sz : Nat} {R : Rel α} {X : List Nat} {w : World} : RSl sz R X w (.slice none 0 0) [] := ⟨none, 0, rfl, by simp, fun k hk => by simp at hk⟩
theorem RRg.pers : RRg.Pers := fun _ _ _ _ _ _ h => h
theorem RRg.fresh : RRg.Fresh := fun _ _ _ _ _ _ h => h
def RRx : Nat → Rel Rx
  | 0 => fun _ _ _ _ => False
  | n + 1 => fun X w vs x => ∃ vr vk, vs = [iv x.kind, .int .i32 x.r, vr, iv x.min, iv x.max, .bool x.lazy, iv x.cap, .string x.name, vk] ∧ RSl 2 RRg X w vr x.ranges ∧ RSl 9 (RRx n) X w vk x.kids ∧
      x.ranges.length ≤ 140737488351232 ∧ x.name.size ≤ 140737488351232 ∧ x.kids.length ≤ 140737488351232
theorem RRx.pers : ∀ n, (RRx n).Pers
  | 0 => fun _ _ _ _ _ _ h => h.elim
  | n + 1 => fun X w w' vs x he ⟨vr, vk, h1, h2, h3, h4⟩ => ⟨vr, vk, h1, RSl.evo RRg.pers he h2, RSl.evo (RRx.pers n) he h3, h4⟩
theorem RRx.fresh : ∀ n, (RRx n).Fresh
  | 0 => fun _ _ _ _ _ _ h => h.elim
  | n + 1 => fun X Y w vs x hy ⟨vr, vk, h1, h2, h3, h4⟩ => ⟨vr, vk, h1, RSl.fresh (by decide) RRg.fresh hy h2, RSl.fresh (by decide) (RRx.fresh n) hy h3, h4⟩
theorem RRx.step {n : Nat} {X Y : List Nat} {w w' : World} {vs : List Value} {x : Rx} (h : RRx n X w vs x) (he : Evo X w w') (hy : ∀ y, y ∈ Y → y ∈ X ∨ w.heap.size ≤ y) (hb : ∀ b, b ∈ X → b < w.heap.size) : RRx n Y w' vs x := by
  have h1 : RRx n (Y ++ X) w vs x := RRx.fresh n X (Y ++ X) w vs x (fun y hy' => by rcases List.mem_append.1 hy' with h | h; exact hy y h; exact .inl h) h
  have h2 := RRx.pers n _ _ _ _ _ (he.mono (fun b hb => by simp [hb])) h1
  exact RRx.fresh n (Y ++ X) Y w' vs x (fun y hy' => .inl (by simp [hy'])) h2
abbrev St := Nat × List ByteArray
def iH (c : Nat) : Prop := (48 ≤ c ∧ c ≤ 57) ∨ (65 ≤ c ∧ c ≤ 90) ∨ (97 ≤ c ∧ c ≤ 122) ∨ c = 95
instance (c : Nat) : Decidable (iH c) := by unfold iH; infer_instance
def NameOk (s : ByteArray) : Prop := ∀ j, j < s.size → iH (sb s j)
def oZ (cap : Int) (nm : ByteArray) (ns : List ByteArray) : Prop := cap = (ns.length : Int) + 1 ∧ cap ≤ 100 ∧ NameOk nm ∧ (nm = ByteArray.mk #[] ∨ nm ∉ ns)
def RangesOk (l : List (Int × Int)) : Prop :=
  (∀ i (h : i < l.length), 0 ≤ l[i].1 ∧ l[i].1 ≤ l[i].2 ∧ l[i].2 ≤ 1114111 ∧ ∀ j (hj : j < l.length), i = j + 1 → l[j].2 + 1 < l[i].1) ∧ ∀ h : l.length = 1, l[0].1 ≠ l[0].2
def BJ (k : Int) : Prop := ¬ (k = 4 ∨ k = 5 ∨ k = 6 ∨ k = 7)
structure NodeP (x : Rx) : Prop where
  kind1 : 1 ≤ x.kind
  kind2 : x.kind ≤ 13
  zr : x.kind = 2 ∨ x.r = 0
  zg : x.kind = 3 ∨ x.ranges = []
  zm : x.kind = 6 ∨ (x.min = 0 ∧ x.max = 0 ∧ x.lazy = false)
  zc : x.kind = 7 ∨ (x.cap = 0 ∧ x.name = ByteArray.mk #[])
  lit : x.kind = 2 → 0 ≤ x.r ∧ x.r ≤ 1114111
  cls : x.kind = 3 → RangesOk x.ranges
  two : x.kind = 4 ∨ x.kind = 5 → 2 ≤ x.kids.length
  rep : x.kind = 6 → 0 ≤ x.min ∧ x.min ≤ 1000 ∧ (x.max = -1 ∨ (x.min ≤ x.max ∧ x.max ≤ 1000)) ∧ x.kids.length = 1
  grp : x.kind = 7 → x.kids.length = 1
  leaf : BJ x.kind → x.kids = []
structure NodeF (x : Rx) : Prop where
  kind1 : 1 ≤ x.kind
  kind2 : x.kind ≤ 13
  zr : x.kind = 2 ∨ x.r = 0
  zg : x.kind = 3 ∨ (x.ranges.length : Int) = 0
  zm1 : x.kind = 6 ∨ x.min = 0
  zm2 : x.kind = 6 ∨ x.max = 0
  zl : x.kind = 6 ∨ x.lazy = false
  zc : x.kind = 7 ∨ x.cap = 0
  zn : x.kind = 7 ∨ x.name = ByteArray.mk #[]
  lit1 : x.kind = 2 → 0 ≤ x.r
  lit2 : x.kind = 2 → x.r ≤ 1114111
  cls : x.kind = 3 → RangesOk x.ranges
  two : x.kind = 4 ∨ x.kind = 5 → 2 ≤ (x.kids.length : Int)
  rep1 : x.kind = 6 → 0 ≤ x.min
  rep2 : x.kind = 6 → x.min ≤ 1000
  rep3 : x.kind = 6 → x.max = -1 ∨ (x.min ≤ x.max ∧ x.max ≤ 1000)
  rep4 : x.kind = 6 → (x.kids.length : Int) = 1
  grp : x.kind = 7 → (x.kids.length : Int) = 1
  leaf : x.kind = 4 ∨ x.kind = 5 ∨ x.kind = 6 ∨ x.kind = 7 ∨ (x.kids.length : Int) = 0
theorem pD (x : Rx) : NodeP x ↔ NodeF x := by
  constructor
  · intro h
    refine ⟨h.kind1, h.kind2, h.zr, ?_, ?_, ?_, ?_, ?_, ?_, fun k => (h.lit k).1, fun k => (h.lit k).2, h.cls, fun k => by have := h.two k; omega, fun k => (h.rep k).1, fun k => (h.rep k).2.1, fun k => (h.rep k).2.2.1, fun k => by have := (h.rep k).2.2.2; omega, fun k => by have := h.grp k; omega, ?_⟩
    · rcases h.zg with h | h; exact .inl h; right; rw [h]; rfl
    · rcases h.zm with h | h; exact .inl h; exact .inr h.1
    · rcases h.zm with h | h; exact .inl h; exact .inr h.2.1
    · rcases h.zm with h | h; exact .inl h; exact .inr h.2.2
    · rcases h.zc with h | h; exact .inl h; exact .inr h.1
    · rcases h.zc with h | h; exact .inl h; exact .inr h.2
    · by_cases hk : BJ x.kind
      · have := h.leaf hk; right; right; right; right; rw [this]; rfl
      · unfold BJ at hk; omega
  · intro h
    refine ⟨h.kind1, h.kind2, h.zr, ?_, ?_, ?_, fun k => ⟨h.lit1 k, h.lit2 k⟩, h.cls, fun k => by have := h.two k; omega, fun k => ⟨h.rep1 k, h.rep2 k, h.rep3 k, by have := h.rep4 k; omega⟩, fun k => by have := h.grp k; omega, fun k => ?_⟩
    · rcases h.zg with h | h; exact .inl h; exact .inr (List.length_eq_zero_iff.1 (by omega))
    · by_cases hk : x.kind = 6
      · exact .inl hk
      · exact .inr ⟨h.zm1.resolve_left hk, h.zm2.resolve_left hk, h.zl.resolve_left hk⟩
    · by_cases hk : x.kind = 7
      · exact .inl hk
      · exact .inr ⟨h.zc.resolve_left hk, h.zn.resolve_left hk⟩
    · have := h.leaf
      unfold BJ at k
      exact List.length_eq_zero_iff.1 (by omega)
theorem nvx {x : Rx} {Q E R : Prop} (h : NodeF x → False) (he : E) : ∃ b, Value.bool false = .bool b ∧ (b = true ↔ NodeP x ∧ Q) ∧ E ∧ (b = true → R) := ⟨false, rfl, ⟨fun h => (by cases h), fun hh => (h ((pD x).1 hh.1)).elim⟩, he, fun h => by cases h⟩
def Brk (a k : Int) : Prop := (k = 5 ∧ a = 5) ∨ (k = 4 ∧ (a = 5 ∨ a = 4 ∨ a = 1)) ∨ (k = 6 ∧ (a = 5 ∨ a = 4 ∨ a = 1 ∨ a = 6))
instance (a k : Int) : Decidable (Brk a k) := by unfold Brk; infer_instance
open Classical in
mutual
noncomputable def Rx.fine : Rx → Int → St → Option St
  | .mk k r rs mn mx lz cp nm ks, b, st =>
    if st.1 + 1 ≤ 8194 ∧ (if k = 7 then b + 1 else b) ≤ 250 ∧ NodeP (.mk k r rs mn mx lz cp nm ks) ∧ (k = 7 → oZ cp nm st.2) then
      gG ks k (if k = 7 then b + 1 else b) (st.1 + 1, if k = 7 then st.2 ++ [nm] else st.2)
    else none
noncomputable def gG : List Rx → Int → Int → St → Option St
  | [], _, _, st => some st
  | x :: xs, k, b, st => match x.fine (b + if Brk x.kind k then 1 else 0) st with
    | none => none
    | some st' => gG xs k b st'
end
open Classical in
theorem Rx.fine_eq (x : Rx) (b : Int) (st : St) : x.fine b st = if st.1 + 1 ≤ 8194 ∧ (if x.kind = 7 then b + 1 else b) ≤ 250 ∧ NodeP x ∧ (x.kind = 7 → oZ x.cap x.name st.2) then
      gG x.kids x.kind (if x.kind = 7 then b + 1 else b) (st.1 + 1, if x.kind = 7 then st.2 ++ [x.name] else st.2) else none := by
  cases x; rw [Rx.fine]; rfl
theorem pZ {l : List Rx} {j : Nat} (hj : j < l.length) (k b : Int) (st : St) : gG (l.drop j) k b st = (match l[j].fine (b + if Brk l[j].kind k then 1 else 0) st with | none => none | some st' => gG (l.drop (j + 1)) k b st') := by
  rw [List.drop_eq_getElem_cons hj, gG]
theorem EZ {l : List Rx} {j : Nat} (hj : ¬ j < l.length) (k b : Int) (st : St) : gG (l.drop j) k b st = some st := by
  rw [List.drop_eq_nil_of_le (by omega), gG]
theorem sF {x : Rx} {b : Int} {st : St} (h : st.1 + 1 ≤ 8194 ∧ (if x.kind = 7 then b + 1 else b) ≤ 250 ∧ NodeP x ∧ (x.kind = 7 → oZ x.cap x.name st.2)) :
    x.fine b st = gG x.kids x.kind (if x.kind = 7 then b + 1 else b) (st.1 + 1, if x.kind = 7 then st.2 ++ [x.name] else st.2) := by rw [Rx.fine_eq, if_pos h]
theorem vA {x : Rx} {b : Int} {st : St} (h : ¬ (st.1 + 1 ≤ 8194 ∧ (if x.kind = 7 then b + 1 else b) ≤ 250 ∧ NodeP x ∧ (x.kind = 7 → oZ x.cap x.name st.2))) : x.fine b st = none := by rw [Rx.fine_eq, if_neg h]
def Rx.Ok (x : Rx) : Prop := ∃ st, x.fine 0 (0, []) = some st
structure JAt (w : World) (T : TypeId) (jb : Nat) (st : St) (a : Option Addr) (c : Nat) (ob : Option Nat) : Prop where
  blk : w.heap[jb]? = some (.cells #[iv (st.1 : Nat), .slice a st.2.length c] T (0, 0))
  own : OwnS w 9 1 a st.2.length c (st.2.map sv) ob
  ne : ∀ g, ob = some g → g ≠ jb
theorem gX {w : World} {o p p' : Option Nat} (h : Apart o p) (hl : Lt w o) (hp : p' = p ∨ ∃ g, p' = some g ∧ w.heap.size ≤ g) : Apart o p' := fun g h1 h2 => by
  rcases hp with rfl | ⟨g', h3, h4⟩
  · exact h g h1 h2
  · rw [h2] at h3; cases h3; have := hl g h1; omega
theorem fG {w w1 : World} {p p' : Option Nat} (h : Ge w p) (hw : w.heap.size ≤ w1.heap.size) (hp : p' = p ∨ ∃ g, p' = some g ∧ w1.heap.size ≤ g) : Ge w p' := fun g hg => by
  rcases hp with rfl | ⟨g', h3, h4⟩
  · exact h g hg
  · rw [hg] at h3; cases h3; omega
end Go.Proofs.YtljadkcojnlioaaGreatDoor
namespace Go.Proofs.YtljadkcojnlioaaGreatDoor
open Go.RowKit Go.W
attribute [local irreducible] Decidable.decide
theorem cD : nU Tryz.prog 21 = some false := by kernel_rfl
theorem jW : nU Tryz.prog 22 = some false := by kernel_rfl
theorem gK : nU Tryz.prog 56 = some true := by kernel_rfl
theorem dG : nU Tryz.prog 9 = some false := by kernel_rfl
theorem qJ : BS Tryz.prog 22 22 = some (9, 1, 16) := by kernel_rfl
theorem cK : vE Tryz.prog 24 = some 2 := by kernel_rfl
theorem nZ : vE Tryz.prog 22 = some 1 := by kernel_rfl
theorem dP : eU Tryz.prog 56 0 = some 0 := by kernel_rfl
theorem dF : eU Tryz.prog 56 1 = some 1 := by kernel_rfl
theorem nN : eU Tryz.prog 102 1 = some 1 := by kernel_rfl
theorem oT : dW Tryz.prog 125 := ⟨_, Tryz.func125, by kernel_rfl, by kernel_rfl⟩
theorem sN : iJ Tryz.prog 22 = some 1 := by kernel_rfl
theorem eH : iJ Tryz.prog 56 = some 2 := by kernel_rfl
theorem rL : rV Tryz.prog 22 = some (9, 1) := by kernel_rfl
theorem nX : pF Tryz.prog 56 = some #[.int .i32 0, .int .i32 0] := by kernel_rfl
theorem TX {w : World} {e : TypeId} {a : Option Addr} {n c : Nat} {ys : List ByteArray} {ob : Option Nat} (h : OwnS w e 1 a n c (ys.map sv) ob) (h0 : 0 < n) : ∃ g, a = some ⟨g, 0, none⟩ ∧ ∀ k (hk : k < ys.length), w.cell? ⟨g, 0 + k * 1, none⟩ = some (sv ys[k]) := by
  obtain ⟨g, hg, ha, hc⟩ := h.cells h0
  refine ⟨g, ha, fun k hk => ?_⟩
  rw [Nat.mul_one]
  exact hc k _ (by simp [hk])
def RangesTo (l : List (Int × Int)) (n : Nat) : Prop := ∀ i (h : i < l.length), i < n → 0 ≤ l[i].1 ∧ l[i].1 ≤ l[i].2 ∧ l[i].2 ≤ 1114111 ∧ ∀ j (hj : j < l.length), i = j + 1 → l[j].2 + 1 < l[i].1
theorem RangesTo.succ {l : List (Int × Int)} {n : Nat} (h : RangesTo l n) (hn : n < l.length) (h1 : 0 ≤ l[n].1) (h2 : l[n].1 ≤ l[n].2) (h3 : l[n].2 ≤ 1114111) (h4 : ∀ j (hj : j < l.length), n = j + 1 → l[j].2 + 1 < l[n].1) : RangesTo l (n + 1) := fun i hi hin => by
  by_cases e : i = n
  · subst e; exact ⟨h1, h2, h3, h4⟩
  · exact h i hi (by omega)
theorem RangesTo.ok {l : List (Int × Int)} {n : Nat} (h : RangesTo l n) (hn : l.length ≤ n) (h1 : ∀ h : l.length = 1, l[0].1 ≠ l[0].2) : RangesOk l := ⟨fun i hi => h i hi (by omega), h1⟩
theorem yH {w : World} (c : Nat) : Calls Tryz.prog 125 #[.int .u8 (c : Nat)] w (Ret fun v w' => v = .bool (decide (iH c)) ∧ Evo [] w w') := by
  refine bE (N := 29) Tryz.func125 rfl rfl rfl ?_; refine csr (wan (csr (aA (aB (dQ rfl rfl) ?_)))); refine aA (bH (t := 5) rfl (fun G => ?_) (fun G => ?_))
  ·refine aW (aA (aW (aB (dM rfl rfl) ?_))); refine bW (aA (bH (t := 9) rfl (fun H => ?_) (fun H => ?_)))
   ·refine aP (aP (aP (eS ?_))); refine eS ?_; refine aP (bW (aA (aP (aP (aP (eS ?_)))))); refine eS ?_; refine aP (bW (aA (aP (aP (bW (wan (aK (br1 ?_)))))))); refine ⟨congrArg Value.bool (Bool.eq_iff_iff.2 ?_), (Evo.refl [] w)⟩
    simp only [decide_eq_true_eq, Bool.false_eq_true, Bool.true_eq_false, true_iff, false_iff, eq_self, iff_true]; unfold iH; omega
   refine aW (aA (aW (aB (dQ rfl rfl) ?_))); refine aW (aA (bH (t := 12) rfl (fun E => ?_) (fun E => ?_)))
   ·refine aW (aA (aW (aB (dM rfl rfl) ?_))); refine aW (bW (bR (aA (bH (t := 17) rfl (fun F => ?_) (fun F => ?_)))))
    ·refine aP (aP (aP (eS ?_))); refine eS ?_; refine aP (bW (aA (aP (aP (bW (wan (aK (br1 ?_)))))))); refine ⟨congrArg Value.bool (Bool.eq_iff_iff.2 ?_), (Evo.refl [] w)⟩
     simp only [decide_eq_true_eq, Bool.false_eq_true, Bool.true_eq_false, true_iff, false_iff, eq_self, iff_true]; unfold iH; omega
    refine aW (aA (aW (aB (dQ rfl rfl) ?_))); refine aW (aA (bH (t := 20) rfl (fun B => ?_) (fun B => ?_)))
    ·refine aW (aA (aW (aB (dM rfl rfl) ?_))); refine aW (bW (bR (aA (bH (t := 25) rfl (fun D => ?_) (fun D => ?_)))))
     ·refine aP (aP (bW (wan (aK (br1 ?_))))); refine ⟨congrArg Value.bool (Bool.eq_iff_iff.2 ?_), (Evo.refl [] w)⟩
      simp only [decide_eq_true_eq, Bool.false_eq_true, Bool.true_eq_false, true_iff, false_iff, eq_self, iff_true]; unfold iH; omega
     refine aW (aA (aW (wel ?_))); refine bR (wan (aK (br1 ?_))); refine ⟨congrArg Value.bool (Bool.eq_iff_iff.2 ?_), (Evo.refl [] w)⟩
     simp only [decide_eq_true_eq, Bool.false_eq_true, Bool.true_eq_false, true_iff, false_iff, eq_self, iff_true]; unfold iH; omega
    refine aP (aP (aW (bR (bR (aA (aW (aA (aW (wel ?_))))))))); refine bR (wan (aK (br1 ?_))); refine ⟨congrArg Value.bool (Bool.eq_iff_iff.2 ?_), (Evo.refl [] w)⟩
    simp only [decide_eq_true_eq, Bool.false_eq_true, Bool.true_eq_false, true_iff, false_iff, eq_self, iff_true]; unfold iH; omega
   refine aP (aP (aW (bR (bR (aA (aW (aA (aW (aB (dQ rfl rfl) ?_))))))))); refine aW (aA (bH (t := 20) rfl (fun B => ?_) (fun B => ?_)))
   ·refine aW (aA (aW (aB (dM rfl rfl) ?_))); refine aW (bW (bR (aA (bH (t := 25) rfl (fun D => ?_) (fun D => ?_)))))
    ·refine aP (aP (bW (wan (aK (br1 ?_))))); refine ⟨congrArg Value.bool (Bool.eq_iff_iff.2 ?_), (Evo.refl [] w)⟩
     simp only [decide_eq_true_eq, Bool.false_eq_true, Bool.true_eq_false, true_iff, false_iff, eq_self, iff_true]; unfold iH; omega
    refine aW (aA (aW (wel ?_))); refine bR (wan (aK (br1 ?_))); refine ⟨congrArg Value.bool (Bool.eq_iff_iff.2 ?_), (Evo.refl [] w)⟩
    simp only [decide_eq_true_eq, Bool.false_eq_true, Bool.true_eq_false, true_iff, false_iff, eq_self, iff_true]; unfold iH; omega
   refine aP (aP (aW (bR (bR (aA (aW (aA (aW (wel ?_))))))))); refine bR (wan (aK (br1 ?_))); refine ⟨congrArg Value.bool (Bool.eq_iff_iff.2 ?_), (Evo.refl [] w)⟩
   simp only [decide_eq_true_eq, Bool.false_eq_true, Bool.true_eq_false, true_iff, false_iff, eq_self, iff_true]; unfold iH; omega
  refine aP (aP (bR (aA (aW (aA (aW (aB (dQ rfl rfl) ?_))))))); refine aW (aA (bH (t := 12) rfl (fun E => ?_) (fun E => ?_)))
  ·refine aW (aA (aW (aB (dM rfl rfl) ?_))); refine aW (bW (bR (aA (bH (t := 17) rfl (fun F => ?_) (fun F => ?_)))))
   ·refine aP (aP (aP (eS ?_))); refine eS ?_; refine aP (bW (aA (aP (aP (bW (wan (aK (br1 ?_)))))))); refine ⟨congrArg Value.bool (Bool.eq_iff_iff.2 ?_), (Evo.refl [] w)⟩
    simp only [decide_eq_true_eq, Bool.false_eq_true, Bool.true_eq_false, true_iff, false_iff, eq_self, iff_true]; unfold iH; omega
   refine aW (aA (aW (aB (dQ rfl rfl) ?_))); refine aW (aA (bH (t := 20) rfl (fun B => ?_) (fun B => ?_)))
   ·refine aW (aA (aW (aB (dM rfl rfl) ?_))); refine aW (bW (bR (aA (bH (t := 25) rfl (fun D => ?_) (fun D => ?_)))))
    ·refine aP (aP (bW (wan (aK (br1 ?_))))); refine ⟨congrArg Value.bool (Bool.eq_iff_iff.2 ?_), (Evo.refl [] w)⟩
     simp only [decide_eq_true_eq, Bool.false_eq_true, Bool.true_eq_false, true_iff, false_iff, eq_self, iff_true]; unfold iH; omega
    refine aW (aA (aW (wel ?_))); refine bR (wan (aK (br1 ?_))); refine ⟨congrArg Value.bool (Bool.eq_iff_iff.2 ?_), (Evo.refl [] w)⟩
    simp only [decide_eq_true_eq, Bool.false_eq_true, Bool.true_eq_false, true_iff, false_iff, eq_self, iff_true]; unfold iH; omega
   refine aP (aP (aW (bR (bR (aA (aW (aA (aW (wel ?_))))))))); refine bR (wan (aK (br1 ?_))); refine ⟨congrArg Value.bool (Bool.eq_iff_iff.2 ?_), (Evo.refl [] w)⟩
   simp only [decide_eq_true_eq, Bool.false_eq_true, Bool.true_eq_false, true_iff, false_iff, eq_self, iff_true]; unfold iH; omega
  refine aP (aP (aW (bR (bR (aA (aW (aA (aW (aB (dQ rfl rfl) ?_))))))))); refine aW (aA (bH (t := 20) rfl (fun B => ?_) (fun B => ?_)))
  ·refine aW (aA (aW (aB (dM rfl rfl) ?_))); refine aW (bW (bR (aA (bH (t := 25) rfl (fun D => ?_) (fun D => ?_)))))
   ·refine aP (aP (bW (wan (aK (br1 ?_))))); refine ⟨congrArg Value.bool (Bool.eq_iff_iff.2 ?_), (Evo.refl [] w)⟩
    simp only [decide_eq_true_eq, Bool.false_eq_true, Bool.true_eq_false, true_iff, false_iff, eq_self, iff_true]; unfold iH; omega
   refine aW (aA (aW (wel ?_))); refine bR (wan (aK (br1 ?_))); refine ⟨congrArg Value.bool (Bool.eq_iff_iff.2 ?_), (Evo.refl [] w)⟩
   simp only [decide_eq_true_eq, Bool.false_eq_true, Bool.true_eq_false, true_iff, false_iff, eq_self, iff_true]; unfold iH; omega
  refine aP (aP (aW (bR (bR (aA (aW (aA (aW (wel ?_))))))))); refine bR (wan (aK (br1 ?_))); refine ⟨congrArg Value.bool (Bool.eq_iff_iff.2 ?_), (Evo.refl [] w)⟩
  simp only [decide_eq_true_eq, Bool.false_eq_true, Bool.true_eq_false, true_iff, false_iff, eq_self, iff_true]; unfold iH; omega
theorem FF {X : List Nat} {w : World} {v : Value} {l : List (Int × Int)} (hs : RSl 2 RRg X w v l) (hl : l.length ≤ 140737488351232) : Calls Tryz.prog 106 #[v] w (Ret fun v w' => ∃ b, v = .bool b ∧ (b = true ↔ RangesOk l) ∧ Evo [] w w') := by
  obtain ⟨sa, sc, rfl, hlc, e1⟩ := hs; refine bE (N := 58) Tryz.func106 rfl rfl rfl ?_; refine csr (wan (aM (csr (aA (aB (bM rfl Tryz.underlying24 rfl) ?_))))); refine aA (wnn (bK ?_)); refine dL (α := Nat) (0) (fun k => [(7, .int .i64 (k : Nat))]) [(0, _), (5, _), (6, _)] (fun k wr => Evo [] w wr ∧ (k ≤ l.length ∧ RangesTo l k)) (fun k => l.length - k) ⟨rfl, trivial⟩ ⟨rfl, rfl, rfl, trivial⟩ ⟨Evo.refl _ _, ⟨Nat.zero_le _, fun i _ h => by omega⟩⟩ ?_; rintro k wr1 ⟨I, ⟨hk, hok⟩⟩; show CW _ _ _ _ [(7, _), (0, _), (5, _), (6, _)] _; have E := (Evo.refl [] w).then I; refine csr (aB (dA rfl rfl) ?_); refine wnn (aM (aZ rfl (fun a3 => ?_) (fun a3 => ?_)))
  ·have hk' : k < l.length := by omega
   obtain ⟨b1, o1, vs1, ha1, hb1, -, a4, rfl⟩ := e1 k hk'; refine aN (aC (aM (bK (csr (aA ?_)))))
   refine aB (iE (n := k) (by rw [ha1]; rfl) rfl cK (by omega)) ?_
   refine aB (eB rfl gK eH (vs := [_, _]) rfl (a4.evo E (by simp))) ?_; refine cO rfl nX fun b4 w5 a5 M O => ?_; refine bN (aV rfl rfl eH a5 rfl rfl ⟨rfl, rfl, trivial⟩ fun a7 F J => ?_); have G := (E.then O).step J (Ge.new E M).mem1; have L := (I.then O).step J (Ge.new I M).mem1; refine wnn (aM ?_); refine eK (by kernel_rfl) (by kernel_rfl) ?_; refine bG (fun _ B => aD rfl dP) ?_; refine bG (fun _ B => aX rfl cD (bI (B.blk0 F) rfl)) ?_; refine bG (fun _ B => dA rfl rfl) ?_; refine bG (fun _ B => bC rfl) ?_; refine kC (t := 15) rfl (fun V => ?_) (fun V => ?_)
   ·refine qln ?_; refine qln ?_; refine qln ?_; refine qln ?_; refine qln ?_; refine bG (fun _ B => eP rfl rfl) ?_; refine bG (fun _ B => bC rfl) ?_; refine qln ?_; refine qln ?_; refine qln ?_; refine bG (fun _ B => eP rfl rfl) ?_; refine bG (fun _ B => bC rfl) ?_; refine qln ?_; refine qln ?_; refine qln ?_; refine gQ rfl rfl rfl rfl rfl ?_; refine gQ rfl rfl rfl rfl rfl ?_; refine gQ rfl rfl rfl rfl rfl ?_; refine gQ rfl rfl rfl rfl rfl ?_; refine gQ rfl rfl rfl rfl rfl ?_; refine gQ rfl rfl rfl rfl rfl ?_; refine gQ rfl rfl rfl rfl rfl ?_; refine gQ rfl rfl rfl rfl rfl ?_; refine gQ rfl rfl rfl rfl rfl ?_; refine gQ rfl rfl rfl rfl rfl ?_; refine qln ?_; refine bG (fun _ B => eP rfl rfl) ?_; refine eN (fun H B => aC ?_); refine cZ rfl ?_; refine csr (wan (aK (aO (aE (aE (aO (aE (br1 ?_))))))))
    exact ⟨false, rfl, by simp only [Bool.false_eq_true, false_iff]; exact fun h => by have := (h.1 k hk').1; omega, (G.then B)⟩
   refine qlg ?_; refine bG (fun _ B => aD rfl dP) ?_; refine qlg ?_; refine bG (fun _ B => aX rfl cD (bI (B.blk0 F) rfl)) ?_; refine qlg ?_; refine bG (fun _ B => aD rfl dF) ?_; refine qlg ?_; refine bG (fun _ B => aX rfl cD (bI (B.blk0 F) rfl)) ?_; refine qlg ?_; refine bG (fun _ B => eW rfl rfl) ?_; refine bG (fun _ B => eZ rfl rfl) ?_; refine bG (fun _ B => bC rfl) ?_; refine kC (t := 22) rfl (fun W => ?_) (fun W => ?_)
   ·refine qln ?_; refine qln ?_; refine qln ?_; refine bG (fun _ B => eP rfl rfl) ?_; refine bG (fun _ B => bC rfl) ?_; refine qln ?_; refine qln ?_; refine qln ?_; refine gQ rfl rfl rfl rfl rfl ?_; refine gQ rfl rfl rfl rfl rfl ?_; refine gQ rfl rfl rfl rfl rfl ?_; refine gQ rfl rfl rfl rfl rfl ?_; refine gQ rfl rfl rfl rfl rfl ?_; refine gQ rfl rfl rfl rfl rfl ?_; refine gQ rfl rfl rfl rfl rfl ?_; refine gQ rfl rfl rfl rfl rfl ?_; refine gQ rfl rfl rfl rfl rfl ?_; refine gQ rfl rfl rfl rfl rfl ?_; refine qln ?_; refine bG (fun _ B => eP rfl rfl) ?_; refine eN (fun H B => aC ?_); refine cZ rfl ?_; refine csr (wan (aK (aO (aE (aE (aO (aE (br1 ?_))))))))
    exact ⟨false, rfl, by simp only [Bool.false_eq_true, false_iff]; exact fun h => by have := (h.1 k hk').2.1; omega, (G.then B)⟩
   refine qlg ?_; refine bG (fun _ B => aD rfl dF) ?_; refine qlg ?_; refine bG (fun _ B => aX rfl cD (bI (B.blk0 F) rfl)) ?_; refine qlg ?_; refine bG (fun _ B => eW rfl rfl) ?_; refine bG (fun _ B => eZ rfl rfl) ?_; refine bG (fun _ B => bC rfl) ?_; refine kC (t := 27) rfl (fun Y => ?_) (fun Y => ?_)
   ·refine qln ?_; refine qln ?_; refine qln ?_; refine gQ rfl rfl rfl rfl rfl ?_; refine gQ rfl rfl rfl rfl rfl ?_; refine gQ rfl rfl rfl rfl rfl ?_; refine gQ rfl rfl rfl rfl rfl ?_; refine gQ rfl rfl rfl rfl rfl ?_; refine gQ rfl rfl rfl rfl rfl ?_; refine gQ rfl rfl rfl rfl rfl ?_; refine gQ rfl rfl rfl rfl rfl ?_; refine gQ rfl rfl rfl rfl rfl ?_; refine gQ rfl rfl rfl rfl rfl ?_; refine qln ?_; refine bG (fun _ B => eP rfl rfl) ?_; refine eN (fun H B => aC ?_); refine cZ rfl ?_; refine csr (wan (aK (aO (aE (aE (aO (aE (br1 ?_))))))))
    exact ⟨false, rfl, by simp only [Bool.false_eq_true, false_iff]; exact fun h => by have := (h.1 k hk').2.2.1; omega, (G.then B)⟩
   refine qlg ?_; refine bG (fun _ B => bC rfl) ?_; refine qlg ?_; refine bG (fun _ B => eW rfl rfl) ?_; refine qlg ?_; refine bG (fun _ B => bC rfl) ?_; refine kC (t := 30) rfl (fun Z => ?_) (fun Z => ?_)
   ·obtain ⟨b2, o2, vs2, ha2, hb2, -, a6, rfl⟩ := e1 (k - 1) (by omega); have hpr := hok (k - 1) (by omega) (by omega); refine qlg ?_; refine bG (fun _ B => aD rfl dP) ?_; refine qlg ?_; refine bG (fun _ B => aX rfl cD (bI (B.blk0 F) rfl)) ?_; refine qlg ?_; refine bG (fun _ B => bC rfl) ?_; refine qlg ?_; refine bG (fun _ B => bC rfl) ?_; refine qlg ?_; refine bG (fun _ B => dX rfl rfl (by omega) (by omega)) ?_; refine qlg ?_
    refine bG (fun _ B => gH (n := k - 1) (by rw [ha2]; rfl) rfl (by omega) cK (by omega)) ?_
    refine qlg ?_; refine bG (fun _ B => aD rfl dF) ?_; refine qlg ?_; refine bG (fun _ B => aX rfl cD ((a6.evo (G.then B) (by simp)) 1 _ rfl)) ?_; refine qlg ?_; refine bG (fun _ B => fA rfl rfl (by omega) (by omega)) ?_; refine qlg ?_; refine bG (fun _ B => dM rfl rfl) ?_; refine qlg ?_; refine bG (fun _ B => eP rfl rfl) ?_; refine bG (fun _ B => eZ rfl rfl) ?_; refine eN (fun H B => aC ?_); refine aZ rfl (fun a0 => ?_) (fun a0 => ?_)
    ·refine csr (wan (aK (aO (aE (aE (aO (aE (br1 ?_))))))))
     exact ⟨false, rfl, by simp only [Bool.false_eq_true, false_iff]; exact fun h => by have := (h.1 k hk').2.2.2 (k - 1) (by omega) (by omega); omega, (G.then B)⟩
    refine aN (aQ (aC (aF ?_))); refine aB (aI rfl rfl (by omega) (by omega)) ?_; refine aA (aR (aY ?_)); refine ⟨k + 1, ?_, ⟨rfl, trivial⟩, ⟨rfl, rfl, rfl, trivial⟩, (L.then B), ?_⟩
    · omega
    exact ⟨by omega, hok.succ hk' (by omega) (by omega) (by omega) (fun j hj e => by first | (subst e; simp only [Nat.add_sub_cancel] at *; omega) | omega)⟩
   refine qln ?_; refine qln ?_; refine qln ?_; refine qln ?_; refine qln ?_; refine qln ?_; refine qln ?_; refine qln ?_; refine qln ?_; refine qln ?_; refine qlg ?_; refine bG (fun _ B => eZ rfl rfl) ?_; refine bG (fun _ B => eZ rfl rfl) ?_; refine eN (fun H B => aC ?_); refine cF rfl ?_; refine aN (aQ (aC (aF ?_))); refine aB (aI rfl rfl (by omega) (by omega)) ?_; refine aA (aR (aY ?_)); refine ⟨k + 1, ?_, ⟨rfl, trivial⟩, ⟨rfl, rfl, rfl, trivial⟩, (L.then B), ?_⟩
   · omega
   exact ⟨by omega, hok.succ hk' (by omega) (by omega) (by omega) (fun j hj e => by first | (subst e; simp only [Nat.add_sub_cancel] at *; omega) | omega)⟩
  refine cW (bS (bS (cV (aC ?_)))); refine aM ?_; refine eK (by kernel_rfl) (by kernel_rfl) ?_; refine bG (fun _ D => bC rfl) ?_; refine bG (fun _ D => bM rfl Tryz.underlying24 rfl) ?_; refine bG (fun _ D => fE rfl rfl) ?_; refine bG (fun _ D => bC rfl) ?_; refine kC (t := 47) rfl (fun a1 => ?_) (fun a1 => ?_)
  ·refine qln ?_; refine qln ?_; refine qln ?_; refine qln ?_; refine qln ?_; refine qln ?_; refine qln ?_; refine qln ?_; refine qln ?_; refine bG (fun _ D => eP rfl rfl) ?_; refine bG (fun _ D => cR rfl) ?_; refine eN (fun a2 D => aC ?_); refine aK (br1 ?_)
   exact ⟨true, rfl, by simp only [true_iff]; exact hok.ok (by omega) (fun h => by omega), (E.then D)⟩
  obtain ⟨b3, o3, vs3, ha3, hb3, -, U, rfl⟩ := e1 0 (by omega); refine qlg ?_; refine bG (fun _ D => bC rfl) ?_; refine qlg ?_
  refine bG (fun _ D => gH (n := 0) (by rw [ha3]; rfl) rfl rfl cK (by omega)) ?_
  refine qlg ?_; refine bG (fun _ D => aD rfl dP) ?_; refine qlg ?_; refine bG (fun _ D => aX rfl cD ((U.evo (E.then D) (by simp)) 0 _ rfl)) ?_; refine qlg ?_; refine bG (fun _ D => bC rfl) ?_; refine qlg ?_
  refine bG (fun _ D => gH (n := 0) (by rw [ha3]; rfl) rfl rfl cK (by omega)) ?_
  refine qlg ?_; refine bG (fun _ D => aD rfl dF) ?_; refine qlg ?_; refine bG (fun _ D => aX rfl cD ((U.evo (E.then D) (by simp)) 1 _ rfl)) ?_; refine qlg ?_; refine bG (fun _ D => fE rfl rfl) ?_; refine bG (fun _ D => eZ rfl rfl) ?_; refine bG (fun _ D => cR rfl) ?_; refine eN (fun a2 D => aC ?_); refine aK (br1 ?_)
  exact ⟨_, rfl, by simp only [decide_eq_true_eq]; exact ⟨fun h => hok.ok (by omega) (fun _ => h), fun h => h.2 (by omega)⟩, (E.then D)⟩
theorem UT {ns : List ByteArray} {nm : ByteArray} (h : ∀ j (hj : j < ns.length), nm = ByteArray.mk #[] ∨ ¬ ns[j] = nm) : nm = ByteArray.mk #[] ∨ nm ∉ ns := by
  by_cases h0 : nm = ByteArray.mk #[]
  · exact .inl h0
  · right
    intro hm
    obtain ⟨j, hj, he⟩ := List.getElem_of_mem hm
    rcases h j hj with h1 | h1
    · exact h0 h1
    · exact h1 he
theorem own_new {w : World} {jb : Nat} {ob ob' : Option Nat} (hne : ∀ g, ob = some g → g ≠ jb) (hlt : jb < w.heap.size) (h : ob' = ob ∨ ∃ g, ob' = some g ∧ w.heap.size ≤ g) : ∀ g, ob' = some g → g ≠ jb := fun g hg => by
  rcases h with rfl | ⟨g', h1, h2⟩
  · exact hne g hg
  · rw [hg] at h1; cases h1; omega
theorem VT {w : World} {jb : Nat} {st : St} {a : Option Addr} {c : Nat} {ob : Option Nat} {cap : Int} {nm : ByteArray} (hJ : JAt w 102 jb st a c ob) (hl : st.2.length ≤ 100000) (hn : nm.size ≤ 140737488351232) :
    Calls Tryz.prog 107 #[.pointer (some ⟨jb, 0, none⟩), .int .i64 cap, .string nm] w (Ret fun v w' => ∃ b, v = .bool b ∧ (b = true ↔ oZ cap nm st.2) ∧ Evo (jb :: ob.toList) w w' ∧
      (b = true → ∃ a' c' ob', JAt w' 102 jb (st.1, st.2 ++ [nm]) a' c' ob' ∧ (ob' = ob ∨ ∃ g, ob' = some g ∧ w.heap.size ≤ g))) := by
  obtain ⟨hB, hO, hne⟩ := hJ
  have hAJN : Apart (some jb) ob := fun g h1 h2 => by cases h1; exact hne jb h2 rfl
  have hlt := fF hB; refine bE (N := 60) Tryz.func107 rfl rfl rfl ?_; refine csr (wan (aM (csr (aA (aA (aB (aH rfl) (wfl rfl nN rfl jW hB rfl (aB (bM rfl Tryz.underlying22 rfl) ?_)))))))); refine aB (aI rfl rfl (by omega) (by omega)) ?_; refine aB (fE rfl rfl) ?_; refine aA (bH (t := 18) rfl (fun F => ?_) (fun F => ?_))
  ·refine aP (aP (bW (wnn (cZ rfl ?_)))); refine csr (wan (aK (aE (br1 ?_))))
   exact ⟨false, rfl, by simp only [Bool.false_eq_true, false_iff]; exact fun h => F h.1, (Evo.refl (jb :: ob.toList) w), fun h => by cases h⟩
  refine aW (aA (aW (aB (eW rfl rfl) ?_))); refine bR (wnn (aZ rfl (fun Z => ?_) (fun Z => ?_)))
  ·refine csr (wan (aK (aE (br1 ?_))))
   exact ⟨false, rfl, by simp only [Bool.false_eq_true, false_iff]; exact fun h => by have := h.2.1; omega, (Evo.refl (jb :: ob.toList) w), fun h => by cases h⟩
  refine aN (aC (aM (csr (aA (aB (cQ rfl Tryz.underlying9 rfl) ?_))))); refine aA (wnn (bK ?_)); refine dL (α := Nat) (0) (fun k => [(24, .int .i64 (k : Nat))]) [(0, _), (2, _), (23, _)] (fun k wr => Evo [] w wr ∧ (k ≤ nm.size ∧ ∀ j, j < k → iH (sb nm j))) (fun k => nm.size - k) ⟨rfl, trivial⟩ ⟨rfl, rfl, rfl, trivial⟩ ⟨Evo.refl _ _, ⟨Nat.zero_le _, fun j h => by omega⟩⟩ ?_; rintro k wr1 ⟨E, ⟨hk, hok⟩⟩; show CW _ _ _ _ [(24, _), (0, _), (2, _), (23, _)] _; have W := (Evo.refl (jb :: ob.toList) w).then E; refine csr (aB (dA rfl rfl) ?_); refine wnn (aM (aZ rfl (fun a0 => ?_) (fun a0 => ?_)))
  ·have hk' : k < nm.size := by omega
   refine aN (aC (aM (bK (csr (aA (wan (csr (aA (aA ?_))))))))); refine aB (fN (n := k) rfl rfl Tryz.underlying9 rfl (by omega)) ?_; refine aG (vs := [_]) oT rfl (yH (sb nm k)) rfl ?_; rintro _ w6 ⟨rfl, Y⟩; refine aB (mS rfl) ?_; refine wnn (aZ rfl (fun G => ?_) (fun G => ?_))
   ·refine csr (wan (aK (aO (aE (aE (aO (aE (br1 ?_))))))))
    exact ⟨false, rfl, by simp only [Bool.false_eq_true, false_iff]; exact fun h => G (h.2.2.1 k hk'), (W.then Y), fun h => by cases h⟩
   refine aN (aQ (aC (aF ?_))); refine aB (aI rfl rfl (by omega) (by omega)) ?_; refine aA (aR (aY ?_)); refine ⟨k + 1, ?_, ⟨rfl, trivial⟩, ⟨rfl, rfl, rfl, trivial⟩, (E.then Y), ?_⟩
   · omega
   refine ⟨by omega, fun j hj => ?_⟩
   by_cases e : j < k
   · exact hok j e
   · obtain rfl : j = k := by omega
     exact Classical.not_not.1 G
  refine cW (bS (bS (cV (aC ?_)))); refine aM (csr (aA (aB (aH rfl) (wfl rfl nN rfl jW (E.blk0 hB) rfl (aB (bM rfl Tryz.underlying22 rfl) ?_))))); refine aA (wnn (bK ?_)); refine dL (α := Nat) (0) (fun l => [(38, .int .i64 (l : Nat))]) [(0, _), (2, _), (36, _), (37, _)] (fun l wr => Evo [] wr1 wr ∧ (l ≤ st.2.length ∧ ∀ j (hj : j < st.2.length), j < l → nm = ByteArray.mk #[] ∨ ¬ st.2[j] = nm)) (fun l => st.2.length - l) ⟨rfl, trivial⟩ ⟨rfl, rfl, rfl, rfl, trivial⟩ ⟨Evo.refl _ _, ⟨Nat.zero_le _, fun j _ h => by omega⟩⟩ ?_; rintro l wr12 ⟨B, ⟨hl2, hno⟩⟩; show CW _ _ _ _ [(38, _), (0, _), (2, _), (36, _), (37, _)] _; have H := W.then B; have I := B.blk0 (E.blk0 hB); have M := (hO.evo0 E).evo0 B; refine csr (aB (dA rfl rfl) ?_); refine wnn (aM (aZ rfl (fun a1 => ?_) (fun a1 => ?_)))
  ·have hl' : l < st.2.length := by omega
   obtain ⟨gN, haN, hcN⟩ := TX M (by omega); refine aN (aC (aM (bK (csr ?_))))
   refine aB (iE (n := l) (by rw [haN]; rfl) rfl nZ (by omega)) ?_
   refine aB (aX rfl dG (hcN l (by omega))) ?_; refine wan (csr (aA (aB (vC rfl rfl) ?_))); refine aA (bH (t := 44) rfl (fun J => ?_) (fun J => ?_))
   ·refine aW (aA (aW (aA (aW (aB (fX rfl rfl) ?_))))); refine bW (wnn (aZ rfl (fun L => ?_) (fun L => ?_)))
    ·refine csr (wan (aK (aO (aE (aE (aO (aE (br1 ?_))))))))
     exact ⟨false, rfl, by simp only [Bool.false_eq_true, false_iff]; exact fun h => by rcases h.2.2.2 with h1 | h1; exact J h1; exact h1 (L ▸ List.getElem_mem hl'), H, fun h => by cases h⟩
    refine aN (aQ (aC (aF ?_))); refine aB (aI rfl rfl (by omega) (by omega)) ?_; refine aA (aR (aY ?_)); refine ⟨l + 1, ?_, ⟨rfl, trivial⟩, ⟨rfl, rfl, rfl, rfl, trivial⟩, B, ?_⟩
    · omega
    refine ⟨by omega, fun j hj hjl => ?_⟩
    by_cases e : j < l
    · exact hno j hj e
    · obtain rfl : j = l := by omega
      exact .inr L
   refine aP (aP (aP (bR (wnn (cF rfl ?_))))); refine aN (aQ (aC (aF ?_))); refine aB (aI rfl rfl (by omega) (by omega)) ?_; refine aA (aR (aY ?_)); refine ⟨l + 1, ?_, ⟨rfl, trivial⟩, ⟨rfl, rfl, rfl, rfl, trivial⟩, B, ?_⟩
   · omega
   refine ⟨by omega, fun j hj hjl => ?_⟩
   by_cases e : j < l
   · exact hno j hj e
   · exact .inl (Classical.not_not.1 J)
  refine cW (bS (bS (cV (aC ?_)))); refine csr (aA (aA (aB (aH rfl) (wfl rfl nN rfl jW I rfl (aA (bL (vs := [_]) rfl rL rfl rfl rfl rfl fun a9 b4 a3 a8 D => ?_)))))); have hszg := ((H.then D)).size; refine cM rfl rfl rfl rfl qJ (M.evo0 D) (Src.ofOwn a3 ⟨rfl, trivial⟩) (by omega) fun a2 c2 b5 ob2 a7 O hob39 => ?_; have a4 := (H.then D).step O (fun y hy => .inl (List.mem_cons_of_mem _ hy)); have hob2 : ob2 = ob ∨ ∃ g, ob2 = some g ∧ w.heap.size ≤ g := hob39.imp id (fun ⟨g, h1, h2⟩ => ⟨g, h1, Nat.le_trans hszg h2⟩); refine aB (aH rfl) (aB (aD rfl nN) (bJ rfl rfl (rfl) sN (O.blk (D.blk0 I) hAJN.nmem) rfl fun b6 U V => ?_))
  have a5 := a4.step V (fun y hy => .inl (by rw [List.mem_singleton.1 hy]; exact List.mem_cons_self ..))
  have a6 := a7.evo V (hAJN.app (Lt.blk (D.blk0 I)) hob39).symm.own1
  try simp only [cH, Nat.reduceAdd] at U
  refine wnn (csr (wan (aK (br1 ?_)))); refine ⟨true, rfl, ?_, a5, fun _ => ⟨a2, c2, ob2, ⟨?_, ?_, own_new hne hlt hob2⟩, hob2⟩⟩
  · simp only [true_iff]; exact ⟨Classical.not_not.1 F, by omega, fun j hj => hok j (by omega), UT (fun j hj => hno j hj (by omega))⟩
  · simp only [List.length_append, List.length_cons, List.length_nil]; exact U
  · rw [List.map_append, List.length_append]; exact a6
theorem jV : nU Tryz.prog 24 = some false := by kernel_rfl
theorem fB : nU Tryz.prog 25 = some false := by kernel_rfl
theorem bF : nU Tryz.prog 27 = some true := by kernel_rfl
theorem bD : nU Tryz.prog 3 = some false := by kernel_rfl
theorem fI : nU Tryz.prog 4 = some false := by kernel_rfl
theorem dO : vE Tryz.prog 25 = some 9 := by kernel_rfl
theorem eR : eU Tryz.prog 27 0 = some 0 := by kernel_rfl
theorem jP : eU Tryz.prog 27 1 = some 1 := by kernel_rfl
theorem gY : eU Tryz.prog 27 2 = some 2 := by kernel_rfl
theorem iG : eU Tryz.prog 27 3 = some 3 := by kernel_rfl
theorem iF : eU Tryz.prog 27 4 = some 4 := by kernel_rfl
theorem kQ : eU Tryz.prog 27 5 = some 5 := by kernel_rfl
theorem mY : eU Tryz.prog 27 6 = some 6 := by kernel_rfl
theorem kP : eU Tryz.prog 27 7 = some 7 := by kernel_rfl
theorem eD : eU Tryz.prog 27 8 = some 8 := by kernel_rfl
theorem GU : dW Tryz.prog 106 := ⟨_, Tryz.func106, by kernel_rfl, by kernel_rfl⟩
theorem GT : dW Tryz.prog 107 := ⟨_, Tryz.func107, by kernel_rfl, by kernel_rfl⟩
theorem gP : iJ Tryz.prog 21 = some 1 := by kernel_rfl
theorem JL : iJ Tryz.prog 24 = some 1 := by kernel_rfl
theorem JK : iJ Tryz.prog 25 = some 1 := by kernel_rfl
theorem aJ : iJ Tryz.prog 27 = some 9 := by kernel_rfl
theorem bY : iJ Tryz.prog 3 = some 1 := by kernel_rfl
theorem fK : iJ Tryz.prog 4 = some 1 := by kernel_rfl
theorem lY : iJ Tryz.prog 9 = some 1 := by kernel_rfl
theorem dC : pF Tryz.prog 27 = some #[.int .i64 0, .int .i32 0, .slice none 0 0, .int .i64 0, .int .i64 0, .bool false, .int .i64 0, .string ByteArray.empty, .slice none 0 0] := by kernel_rfl
theorem NR {b jb : Nat} {ob : Option Nat} (h1 : Apart (some b) (some jb)) (h2 : Apart (some b) ob) : b ∉ jb :: ob.toList := fun hm => by
  rcases List.mem_cons.1 hm with h | h
  · exact h1 b rfl (by rw [h])
  · exact h2 b rfl (by simpa using h)
theorem vF {w : World} (a k : Int) : Calls Tryz.prog 85 #[.int .i64 a, .int .i64 k] w (Ret fun v w' => v = .bool (decide (Brk a k)) ∧ Evo [] w w') := by
  refine bE (N := 38) Tryz.func85 rfl rfl rfl ?_; refine csr (wan (aM (csr (aA (wnn (bK (csr (wel ?_)))))))); refine wan (aZ rfl (fun J => ?_) (fun J => ?_))
  ·refine csr (aA (wel ?_)); refine wan (aK (aO (aE (br1 ?_)))); refine ⟨congrArg Value.bool (Bool.eq_iff_iff.2 ?_), (Evo.refl [] w)⟩
   simp only [decide_eq_true_eq, Bool.false_eq_true, Bool.true_eq_false, true_iff, false_iff, eq_self, iff_true]; unfold Brk; omega
  refine csr (wel ?_); refine wan (aZ rfl (fun B => ?_) (fun B => ?_))
  ·refine csr (aA (wel ?_)); refine aA (bH (t := 14) rfl (fun D => ?_) (fun D => ?_))
   ·refine aP (aP (bW (aA (aP (aP (bW (wan (aK (aO (aE (br1 ?_))))))))))); refine ⟨congrArg Value.bool (Bool.eq_iff_iff.2 ?_), (Evo.refl [] w)⟩
    simp only [decide_eq_true_eq, Bool.false_eq_true, Bool.true_eq_false, true_iff, false_iff, eq_self, iff_true]; unfold Brk; omega
   refine aW (aA (aW (wel ?_))); refine bR (aA (bH (t := 18) rfl (fun E => ?_) (fun E => ?_)))
   ·refine aP (aP (bW (wan (aK (aO (aE (br1 ?_))))))); refine ⟨congrArg Value.bool (Bool.eq_iff_iff.2 ?_), (Evo.refl [] w)⟩
    simp only [decide_eq_true_eq, Bool.false_eq_true, Bool.true_eq_false, true_iff, false_iff, eq_self, iff_true]; unfold Brk; omega
   refine aW (aA (aW (wel ?_))); refine bR (wan (aK (aO (aE (br1 ?_))))); refine ⟨congrArg Value.bool (Bool.eq_iff_iff.2 ?_), (Evo.refl [] w)⟩
   simp only [decide_eq_true_eq, Bool.false_eq_true, Bool.true_eq_false, true_iff, false_iff, eq_self, iff_true]; unfold Brk; omega
  refine csr (wel ?_); refine wan (aZ rfl (fun F => ?_) (fun F => ?_))
  ·refine csr (aA (wel ?_)); refine aA (bH (t := 26) rfl (fun G => ?_) (fun G => ?_))
   ·refine aP (aP (bW (aA (aP (aP (bW (aA (aP (aP (bW (wan (aK (aO (aE (br1 ?_))))))))))))))); refine ⟨congrArg Value.bool (Bool.eq_iff_iff.2 ?_), (Evo.refl [] w)⟩
    simp only [decide_eq_true_eq, Bool.false_eq_true, Bool.true_eq_false, true_iff, false_iff, eq_self, iff_true]; unfold Brk; omega
   refine aW (aA (aW (wel ?_))); refine bR (aA (bH (t := 30) rfl (fun H => ?_) (fun H => ?_)))
   ·refine aP (aP (bW (aA (aP (aP (bW (wan (aK (aO (aE (br1 ?_))))))))))); refine ⟨congrArg Value.bool (Bool.eq_iff_iff.2 ?_), (Evo.refl [] w)⟩
    simp only [decide_eq_true_eq, Bool.false_eq_true, Bool.true_eq_false, true_iff, false_iff, eq_self, iff_true]; unfold Brk; omega
   refine aW (aA (aW (wel ?_))); refine bR (aA (bH (t := 34) rfl (fun I => ?_) (fun I => ?_)))
   ·refine aP (aP (bW (wan (aK (aO (aE (br1 ?_))))))); refine ⟨congrArg Value.bool (Bool.eq_iff_iff.2 ?_), (Evo.refl [] w)⟩
    simp only [decide_eq_true_eq, Bool.false_eq_true, Bool.true_eq_false, true_iff, false_iff, eq_self, iff_true]; unfold Brk; omega
   refine aW (aA (aW (wel ?_))); refine bR (wan (aK (aO (aE (br1 ?_))))); refine ⟨congrArg Value.bool (Bool.eq_iff_iff.2 ?_), (Evo.refl [] w)⟩
   simp only [decide_eq_true_eq, Bool.false_eq_true, Bool.true_eq_false, true_iff, false_iff, eq_self, iff_true]; unfold Brk; omega
  refine aN (aQ (aC (csr (wan (aK (br1 ?_)))))); refine ⟨congrArg Value.bool (Bool.eq_iff_iff.2 ?_), (Evo.refl [] w)⟩
  simp only [decide_eq_true_eq, Bool.false_eq_true, Bool.true_eq_false, true_iff, false_iff, eq_self, iff_true]; unfold Brk; omega
structure FdG where
  r : Int
  mn : Int
  mx : Int
  cp : Int
  kd : Int
  rn : Nat
  rc : Nat
  ra : Option Addr
  lz : Bool
  nm : ByteArray
  a2 : Option Addr
  c2 : Nat
  ob2 : Option Nat
@[reducible] def FdP (x : Rx) (st : St) (y : FdG) : Prop := ((x.kids.length : Int) = y.kd ∧ y.r = 0 ∧ (y.rn : Int) = 0 ∧ y.mn = 0 ∧ y.mx = 0 ∧ y.lz = false ∧ y.cp = 0 ∧ y.nm = ByteArray.mk #[]) ↔ (NodeP x ∧ (x.kind = 7 → oZ x.cap x.name st.2))
theorem tZ {x : Rx} {st : St} {y : FdG} (h1 : 1 ≤ x.kind) (h2 : x.kind ≤ 13) (hr : y.r = if x.kind = 2 then 0 else x.r) (hn : (y.rn : Int) = if x.kind = 3 then 0 else (x.ranges.length : Int)) (hm : y.mn = if x.kind = 6 then 0 else x.min) (hx : y.mx = if x.kind = 6 then 0 else x.max)
    (hl : y.lz = if x.kind = 6 then false else x.lazy) (hc : y.cp = if x.kind = 7 then 0 else x.cap) (hw : y.nm = if x.kind = 7 then ByteArray.mk #[] else x.name) (hk : y.kd = if x.kind = 6 ∨ x.kind = 7 then 1 else if x.kind = 4 ∨ x.kind = 5 then (if 2 < (x.kids.length : Int) then (x.kids.length : Int) else 2) else 0)
    (c2 : x.kind = 2 → 0 ≤ x.r ∧ x.r ≤ 1114111) (c3 : x.kind = 3 → RangesOk x.ranges) (c6 : x.kind = 6 → 0 ≤ x.min ∧ x.min ≤ 1000 ∧ (x.max = -1 ∨ (x.min ≤ x.max ∧ x.max ≤ 1000))) (c7 : x.kind = 7 → oZ x.cap x.name st.2) : FdP x st y := by
  unfold FdP
  rw [pD, hr, hn, hm, hx, hl, hc, hw, hk]
  constructor
  · rintro ⟨q1, q2, q3, q4, q5, q6, q7, q8⟩
    refine ⟨⟨h1, h2, ?_, ?_, ?_, ?_, ?_, ?_, ?_, fun k => (c2 k).1, fun k => (c2 k).2, c3, ?_, fun k => (c6 k).1, fun k => (c6 k).2.1, fun k => (c6 k).2.2, ?_, ?_, ?_⟩, c7⟩
    · by_cases k : x.kind = 2; exact .inl k; rw [if_neg k] at q2; exact .inr q2
    · by_cases k : x.kind = 3; exact .inl k; rw [if_neg k] at q3; exact .inr q3
    · by_cases k : x.kind = 6; exact .inl k; rw [if_neg k] at q4; exact .inr q4
    · by_cases k : x.kind = 6; exact .inl k; rw [if_neg k] at q5; exact .inr q5
    · by_cases k : x.kind = 6; exact .inl k; rw [if_neg k] at q6; exact .inr q6
    · by_cases k : x.kind = 7; exact .inl k; rw [if_neg k] at q7; exact .inr q7
    · by_cases k : x.kind = 7; exact .inl k; rw [if_neg k] at q8; exact .inr q8
    · intro k; rw [if_neg (by omega), if_pos k] at q1; split at q1 <;> omega
    · intro k; rw [if_pos (.inl k)] at q1; exact q1
    · intro k; rw [if_pos (.inr k)] at q1; exact q1
    · by_cases k : x.kind = 6 ∨ x.kind = 7; omega; rw [if_neg k] at q1; by_cases k2 : x.kind = 4 ∨ x.kind = 5; omega; rw [if_neg k2] at q1; omega
  · rintro ⟨hf, -⟩
    have g1 := hf.two; have g2 := hf.rep4; have g3 := hf.grp; have g4 := hf.leaf; have f1 := hf.zr; have f2 := hf.zg; have f3 := hf.zm1; have f4 := hf.zm2; have f5 := hf.zl; have f6 := hf.zc; have f7 := hf.zn
    refine ⟨?_, ?_, ?_, ?_, ?_, ?_, ?_, ?_⟩
    · by_cases k : x.kind = 6 ∨ x.kind = 7; rw [if_pos k]; omega; rw [if_neg k]; by_cases k2 : x.kind = 4 ∨ x.kind = 5; rw [if_pos k2]; split <;> omega; rw [if_neg k2]; omega
    · split; rfl; exact f1.resolve_left (by assumption)
    · split; rfl; exact f2.resolve_left (by assumption)
    · split; rfl; exact f3.resolve_left (by assumption)
    · split; rfl; exact f4.resolve_left (by assumption)
    · split; rfl; exact f5.resolve_left (by assumption)
    · split; rfl; exact f6.resolve_left (by assumption)
    · split; rfl; exact f7.resolve_left (by assumption)
theorem nv2 {Q E R : Prop} (h : ¬ Q) (he : E) : ∃ b, Value.bool false = .bool b ∧ (b = true ↔ Q) ∧ E ∧ (b = true → R) := ⟨false, rfl, ⟨fun h => (by cases h), fun hh => (h hh).elim⟩, he, fun h => by cases h⟩
theorem nvy {x : Rx} {Q E R : Prop} (h : NodeF x → False) (he : E) : ∃ b, Value.bool false = .bool b ∧ (b = true ↔ NodeP x ∧ Q) ∧ E ∧ (b = true → R) := ⟨false, rfl, ⟨fun h => (by cases h), fun hh => (h ((pD x).1 hh.1)).elim⟩, he, fun h => by cases h⟩
set_option maxHeartbeats 4000000 in
theorem LY {n : Nat} {w : World} {jb : Nat} {st : St} {a : Option Addr} {c : Nat} {ob : Option Nat} {vs : List Value} {x : Rx} (hJ : JAt w 102 jb st a c ob) (hx : RRx n (jb :: ob.toList) w vs x) (hl : st.2.length ≤ 100000) :
    Calls Tryz.prog 84 #[.pointer (some ⟨jb, 0, none⟩), .agg vs.toArray] w (Ret fun v w' => ∃ b, v = .bool b ∧ (b = true ↔ NodeP x ∧ (x.kind = 7 → oZ x.cap x.name st.2)) ∧ Evo (jb :: ob.toList) w w' ∧
      (b = true → ∃ a' c' ob', JAt w' 102 jb (st.1, if x.kind = 7 then st.2 ++ [x.name] else st.2) a' c' ob' ∧ (ob' = ob ∨ ∃ g, ob' = some g ∧ w.heap.size ≤ g))) := by
  obtain ⟨hB, hO, hne⟩ := hJ
  have hAJN : Apart (some jb) ob := fun g h1 h2 => by cases h1; exact hne jb h2 rfl
  have hlt := fF hB
  cases n with
  | zero => exact hx.elim
  | succ n =>
  obtain ⟨vr, vk, rfl, hr, hk, bl1, bl2, bl3⟩ := hx; obtain ⟨ka, kc, rfl, hkc, e1⟩ := hk; have hr0 := hr; obtain ⟨ra, rc, rfl, hrc, e2⟩ := hr; refine bE (N := 127) Tryz.func84 rfl rfl rfl ?_; refine csr (iM rfl rfl fun b3 w1 e8 e9 d6 => ?_); have i2 := e9; have d9 := Apart.new (Lt.blk hB) e9; have g6 := (Evo.refl (jb :: ob.toList) w).then d6; refine wan (csr (aB (bX rfl bF aJ e8 rfl) (cO rfl dC fun b5 j1 g7 a1 b4 => ?_))); have i3 := a1; have D := Apart.new (Lt.blk (d6.blk0 hB)) a1; have F := Apart.new (Lt.own (hO.evo0 d6)) a1; have G := Apart.new (Lt.blk e8) a1; have H := Ge.new g6 a1; refine aV rfl rfl aJ g7 rfl rfl ⟨rfl, rfl, rfl, rfl, rfl, rfl, rfl, rfl, rfl, trivial⟩ fun j2 f0 b6 => ?_
  try simp only [cH, Nat.reduceAdd] at f0
  refine wnn (csr (aB (aD rfl eR) (bJ rfl rfl (rfl) bY f0 rfl fun j3 f5 b7 => ?_)))
  try simp only [cH, Nat.reduceAdd] at f5
  refine aB (aD rfl eD) (bJ rfl rfl (rfl) JK f5 rfl fun O f6 b8 => ?_); have f7 := b8.blk (b7.blk (b6.blk (b4.blk0 e8) G.nmem1) G.nmem1) G.nmem1
  try simp only [cH, Nat.reduceAdd] at f6
  refine wnn (csr (wan (aM (gR (α := FdG) (fun y => [(6, .int .i64 y.kd)]) [(3, _), (5, _)] (fun y wr => Evo (jb :: ob.toList) w wr ∧ (wr.heap[b3]? = some (.cells #[iv x.kind, .int .i32 x.r, .slice ra x.ranges.length rc, iv x.min, iv x.max, .bool x.lazy, iv x.cap, .string x.name, .slice ka x.kids.length kc] 27 (0, 0)) ∧ wr.heap[b5]? = some (.cells #[iv 0, .int .i32 y.r, .slice y.ra y.rn y.rc, iv y.mn, iv y.mx, .bool y.lz, iv y.cp, .string y.nm, .slice none 0 0] 27 (0, 0)) ∧ JAt wr 102 jb (st.1, if x.kind = 7 then st.2 ++ [x.name] else st.2) y.a2 y.c2 y.ob2 ∧ (y.ob2 = ob ∨ ∃ g, y.ob2 = some g ∧ w.heap.size ≤ g) ∧ FdP x st y)) ⟨rfl, rfl, trivial⟩ ?_ ?_))))
  ·refine csr (wfl rfl eR rfl bD f7 rfl (wnn (bK (aM (gR (α := Bool) (fun z => [(12, .bool z)]) [(0, _), (3, _), (4, _), (5, _), (6, _), (11, _)] (fun z wr => Evo [] O wr ∧ (z = true ↔ (x.kind = 1 ∨ (8 ≤ x.kind ∧ x.kind ≤ 13)))) ⟨rfl, rfl, rfl, rfl, rfl, rfl, trivial⟩ ?_ ?_)))))
   ·refine csr (wel ?_); refine wan (aZ rfl (fun B => ?_) (fun B => ?_))
    ·refine aN (aY ?_); refine ⟨(decide (x.kind = 1)), ⟨rfl, trivial⟩, ⟨rfl, rfl, rfl, rfl, rfl, rfl, trivial⟩, (Evo.refl [] O), ?_⟩
     simp only [decide_eq_true_eq]; omega
    refine csr (wel ?_); refine wan (aZ rfl (fun B => ?_) (fun B => ?_))
    ·refine aN (aY ?_); refine ⟨(decide (x.kind = 8)), ⟨rfl, trivial⟩, ⟨rfl, rfl, rfl, rfl, rfl, rfl, trivial⟩, (Evo.refl [] O), ?_⟩
     simp only [decide_eq_true_eq]; omega
    refine csr (wel ?_); refine wan (aZ rfl (fun B => ?_) (fun B => ?_))
    ·refine aN (aY ?_); refine ⟨(decide (x.kind = 9)), ⟨rfl, trivial⟩, ⟨rfl, rfl, rfl, rfl, rfl, rfl, trivial⟩, (Evo.refl [] O), ?_⟩
     simp only [decide_eq_true_eq]; omega
    refine csr (wel ?_); refine wan (aZ rfl (fun B => ?_) (fun B => ?_))
    ·refine aN (aY ?_); refine ⟨(decide (x.kind = 10)), ⟨rfl, trivial⟩, ⟨rfl, rfl, rfl, rfl, rfl, rfl, trivial⟩, (Evo.refl [] O), ?_⟩
     simp only [decide_eq_true_eq]; omega
    refine csr (wel ?_); refine wan (aZ rfl (fun B => ?_) (fun B => ?_))
    ·refine aN (aY ?_); refine ⟨(decide (x.kind = 11)), ⟨rfl, trivial⟩, ⟨rfl, rfl, rfl, rfl, rfl, rfl, trivial⟩, (Evo.refl [] O), ?_⟩
     simp only [decide_eq_true_eq]; omega
    refine csr (wel ?_); refine wan (aZ rfl (fun B => ?_) (fun B => ?_))
    ·refine aN (aY ?_); refine ⟨(decide (x.kind = 12)), ⟨rfl, trivial⟩, ⟨rfl, rfl, rfl, rfl, rfl, rfl, trivial⟩, (Evo.refl [] O), ?_⟩
     simp only [decide_eq_true_eq]; omega
    refine aF (wel ?_); refine bN (aR (aY ?_)); refine ⟨(decide (x.kind = 13)), ⟨rfl, trivial⟩, ⟨rfl, rfl, rfl, rfl, rfl, rfl, trivial⟩, (Evo.refl [] O), ?_⟩
    simp only [decide_eq_true_eq]; omega
   rintro z f8 ⟨a3, hz⟩; refine aC ?_; show CW _ _ _ _ [(12, _), (0, _), (3, _), (4, _), (5, _), (6, _), (11, _)] _; have L := ((((g6.then b4).step b6 H.mem1).step b7 H.mem1).step b8 H.mem1).then a3; have b9 := a3.blk0 (b8.blk (b7.blk (b6.blk (b4.blk0 (d6.blk0 hB)) D.nmem1) D.nmem1) D.nmem1); have c0 := (((((hO.evo0 d6).evo0 b4).evo b6 F.own1).evo b7 F.own1).evo b8 F.own1).evo0 a3; have M := a3.blk0 f7; have c1 := a3.blk0 f6; refine eO rfl (fun B => ?_) (fun B => ?_)
   ·subst B; have hk12 := hz.1 rfl; refine aN (aQ (aY ?_)); refine ⟨⟨x.r, x.min, x.max, x.cap, 0, x.ranges.length, rc, ra, x.lazy, x.name, a, c, ob⟩, ⟨rfl, trivial⟩, ⟨rfl, rfl, trivial⟩, L, ?_⟩
    exact ⟨M, c1, ⟨by rw [if_neg (show ¬ x.kind = 7 by omega)]; exact b9, by rw [if_neg (show ¬ x.kind = 7 by omega)]; exact c0, hne⟩, .inl rfl, tZ (by omega) (by omega) (by simp only; split <;> first | rfl | omega) (by simp only; split <;> first | rfl | omega) (by simp only; split <;> first | rfl | omega) (by simp only; split <;> first | rfl | omega) (by simp only; split <;> first | rfl | omega) (by simp only; split <;> first | rfl | omega) (by simp only; split <;> first | rfl | omega) (by simp only; (repeat' split) <;> first | rfl | omega) (fun k => by omega) (fun k => by omega) (fun k => by omega) (fun k => by omega)⟩
   subst B
   have hk12 : ¬ (x.kind = 1 ∨ (8 ≤ x.kind ∧ x.kind ≤ 13)) := fun h => by have := hz.2 h; cases this
   refine csr (wel ?_); refine wan (aZ rfl (fun g8 => ?_) (fun g8 => ?_))
   ·refine aM (csr (wfl rfl jP rfl cD M rfl (aB (dA rfl rfl) ?_))); refine aA (bH (t := 25) rfl (fun g9 => ?_) (fun g9 => ?_))
    ·refine aP (aP (aP (bW (wnn (cZ rfl ?_))))); refine csr (wan (aK (aE (aO (aE (aE (br1 ?_)))))))
     exact nvy (fun hf => by have f1 := hf.lit1; have f2 := hf.lit2; omega) L
    refine aW (aB (aD rfl jP) (aW (aB (aX rfl cD (bI M rfl)) (aW (aB (eW rfl rfl) ?_))))); refine bR (wnn (aZ rfl (fun h0 => ?_) (fun h0 => ?_)))
    ·refine csr (wan (aK (aE (aO (aE (aE (br1 ?_)))))))
     exact nvy (fun hf => by have f1 := hf.lit1; have f2 := hf.lit2; omega) L
    refine aN (aC (aF (aB (aD rfl jP) (bJ rfl rfl (rfl) gP c1 rfl fun j4 f9 c3 => ?_))))
    try simp only [cH, Nat.reduceAdd] at f9
    refine aR (aQ (aY ?_)); refine ⟨⟨0, x.min, x.max, x.cap, 0, x.ranges.length, rc, ra, x.lazy, x.name, a, c, ob⟩, ⟨rfl, trivial⟩, ⟨rfl, rfl, trivial⟩, (L.step c3 H.mem1), ?_⟩
    exact ⟨(c3.blk M G.nmem1), f9, ⟨by rw [if_neg (show ¬ x.kind = 7 by omega)]; exact (c3.blk b9 D.nmem1), by rw [if_neg (show ¬ x.kind = 7 by omega)]; exact (c0.evo c3 F.own1), hne⟩, .inl rfl, tZ (by omega) (by omega) (by simp only; split <;> first | rfl | omega) (by simp only; split <;> first | rfl | omega) (by simp only; split <;> first | rfl | omega) (by simp only; split <;> first | rfl | omega) (by simp only; split <;> first | rfl | omega) (by simp only; split <;> first | rfl | omega) (by simp only; split <;> first | rfl | omega) (by simp only; (repeat' split) <;> first | rfl | omega) (fun _ => by omega) (fun k => by omega) (fun k => by omega) (fun k => by omega)⟩
   refine csr (wel ?_); refine wan (aZ rfl (fun h3 => ?_) (fun h3 => ?_))
   ·refine aM (csr (wfl rfl gY rfl jV M rfl (aG (vs := [_]) GU rfl (FF (RSl.evo RRg.pers L hr0) bl1) rfl ?_))); rintro _ j5 ⟨cb, rfl, hcb, a4⟩; have g0 := L.then a4; refine aB (fV rfl) ?_; refine wnn (eO rfl (fun c4 => ?_) (fun c4 => ?_))
    ·refine csr (wan (aK (aE (aO (aE (aE (br1 ?_)))))))
     exact nvy (fun hf => by rw [hcb.2 (hf.cls (by omega))] at c4; cases c4) g0
    refine aN (aC (aF (aB (aD rfl gY) (bJ rfl rfl (rfl) JL (a4.blk0 c1) rfl fun j6 g1 c5 => ?_))))
    try simp only [cH, Nat.reduceAdd] at g1
    refine aR (aQ (aY ?_)); refine ⟨⟨x.r, x.min, x.max, x.cap, 0, 0, 0, none, x.lazy, x.name, a, c, ob⟩, ⟨rfl, trivial⟩, ⟨rfl, rfl, trivial⟩, (g0.step c5 H.mem1), ?_⟩
    exact ⟨(c5.blk (a4.blk0 M) G.nmem1), g1, ⟨by rw [if_neg (show ¬ x.kind = 7 by omega)]; exact (c5.blk (a4.blk0 b9) D.nmem1), by rw [if_neg (show ¬ x.kind = 7 by omega)]; exact ((c0.evo0 a4).evo c5 F.own1), hne⟩, .inl rfl, tZ (by omega) (by omega) (by simp only; split <;> first | rfl | omega) (by simp only; split <;> first | rfl | omega) (by simp only; split <;> first | rfl | omega) (by simp only; split <;> first | rfl | omega) (by simp only; split <;> first | rfl | omega) (by simp only; split <;> first | rfl | omega) (by simp only; split <;> first | rfl | omega) (by simp only; (repeat' split) <;> first | rfl | omega) (fun k => by omega) (fun _ => hcb.1 (by simpa using c4)) (fun k => by omega) (fun k => by omega)⟩
   refine aM (gR (α := Bool) (fun z2 => [(38, .bool z2)]) [(0, _), (3, _), (4, _), (5, _), (6, _), (11, _)] (fun z2 wr => Evo [] f8 wr ∧ (z2 = true ↔ (x.kind = 4 ∨ x.kind = 5))) ⟨rfl, rfl, rfl, rfl, rfl, rfl, trivial⟩ ?_ ?_)
   ·refine csr (wel ?_); refine wan (aZ rfl (fun a5 => ?_) (fun a5 => ?_))
    ·refine aN (aY ?_); refine ⟨(decide (x.kind = 4)), ⟨rfl, trivial⟩, ⟨rfl, rfl, rfl, rfl, rfl, rfl, trivial⟩, (Evo.refl [] f8), ?_⟩
     simp only [decide_eq_true_eq]; omega
    refine aF (wel ?_); refine bN (aR (aY ?_)); refine ⟨(decide (x.kind = 5)), ⟨rfl, trivial⟩, ⟨rfl, rfl, rfl, rfl, rfl, rfl, trivial⟩, (Evo.refl [] f8), ?_⟩
    simp only [decide_eq_true_eq]; omega
   rintro z2 j7 ⟨a6, hz2⟩; refine aC ?_; show CW _ _ _ _ [(38, _), (0, _), (3, _), (4, _), (5, _), (6, _), (11, _)] _; have J := L.then a6; have c6 := a6.blk0 b9; have c7 := c0.evo0 a6; have E := a6.blk0 M; have a7 := a6.blk0 c1; refine eO rfl (fun a5 => ?_) (fun a5 => ?_)
   ·subst a5; have hk38 := hz2.1 rfl; refine aF (wfl rfl eD rfl fB E rfl (aB (bM rfl Tryz.underlying25 rfl) ?_)); refine aB (lL rfl rfl) ?_; refine bN (aR (aQ (aY ?_))); refine ⟨⟨x.r, x.min, x.max, x.cap, (if 2 < (x.kids.length : Int) then (x.kids.length : Int) else 2), x.ranges.length, rc, ra, x.lazy, x.name, a, c, ob⟩, ⟨rfl, trivial⟩, ⟨rfl, rfl, trivial⟩, J, ?_⟩
    exact ⟨E, a7, ⟨by rw [if_neg (show ¬ x.kind = 7 by omega)]; exact c6, by rw [if_neg (show ¬ x.kind = 7 by omega)]; exact c7, hne⟩, .inl rfl, tZ (by omega) (by omega) (by simp only; split <;> first | rfl | omega) (by simp only; split <;> first | rfl | omega) (by simp only; split <;> first | rfl | omega) (by simp only; split <;> first | rfl | omega) (by simp only; split <;> first | rfl | omega) (by simp only; split <;> first | rfl | omega) (by simp only; split <;> first | rfl | omega) (by simp only; (repeat' split) <;> first | rfl | omega) (fun k => by omega) (fun k => by omega) (fun k => by omega) (fun k => by omega)⟩
   subst a5
   have hk38 : ¬ (x.kind = 4 ∨ x.kind = 5) := fun h => by have := hz2.2 h; cases this
   refine csr (wel ?_); refine wan (aZ rfl (fun h4 => ?_) (fun h4 => ?_))
   ·refine aM (csr (wfl rfl iG rfl bD E rfl (aB (dA rfl rfl) ?_))); refine aA (bH (t := 50) rfl (fun h5 => ?_) (fun h5 => ?_))
    ·refine aP (aP (aP (bW (aA (aP (aP (aP (aP (eS ?_))))))))); refine eS ?_; refine eS ?_; refine eS ?_; refine eS ?_; refine eS ?_; refine eS ?_; refine eS ?_; refine eS ?_; refine eS ?_; refine aP (bW (wnn (cZ rfl ?_))); refine csr (wan (aK (aE (aO (aE (aE (br1 ?_)))))))
     exact nvy (fun hf => by have f1 := hf.rep1; omega) J
    refine aW (aB (aD rfl iG) (aW (aB (aX rfl bD (bI E rfl)) (aW (aB (eW rfl rfl) ?_))))); refine bR (aA (bH (t := 55) rfl (fun h6 => ?_) (fun h6 => ?_)))
    ·refine aP (aP (aP (aP (eS ?_)))); refine eS ?_; refine eS ?_; refine eS ?_; refine eS ?_; refine eS ?_; refine eS ?_; refine eS ?_; refine eS ?_; refine eS ?_; refine aP (bW (wnn (cZ rfl ?_))); refine csr (wan (aK (aE (aO (aE (aE (br1 ?_)))))))
     exact nvy (fun hf => by have f1 := hf.rep1; have f2 := hf.rep2; have f3 := hf.rep3; omega) J
    refine aW (aB (aD rfl iF) (aW (aB (aX rfl bD (bI E rfl)) (aW (aB (fE rfl rfl) ?_))))); refine aW (aA (bH (t := 59) rfl (fun h7 => ?_) (fun h7 => ?_)))
    ·refine aW (aB (aD rfl iF) (aW (aB (aX rfl bD (bI E rfl)) (aW (aB (aD rfl iG) (aW (aB (aX rfl bD (bI E rfl)) (aW (aB (dA rfl rfl) ?_))))))))); refine aW (aA (bH (t := 65) rfl (fun h8 => ?_) (fun h8 => ?_)))
     ·refine aP (aP (aP (aW (bW (aW (bW (bR (wnn (cZ rfl ?_))))))))); refine csr (wan (aK (aE (aO (aE (aE (br1 ?_)))))))
      exact nvy (fun hf => by have f1 := hf.rep1; have f2 := hf.rep2; have f3 := hf.rep3; omega) J
     refine aW (aB (aD rfl iF) (aW (aB (aX rfl bD (bI E rfl)) (aW (aB (eW rfl rfl) ?_))))); refine aW (bR (aW (bW (bR (wnn (aZ rfl (fun i0 => ?_) (fun i0 => ?_)))))))
     ·refine csr (wan (aK (aE (aO (aE (aE (br1 ?_)))))))
      exact nvy (fun hf => by have f1 := hf.rep1; have f2 := hf.rep2; have f3 := hf.rep3; omega) J
     refine aN (aC (csr (aB (aD rfl iG) (bJ rfl rfl (rfl) bY a7 rfl fun j8 g2 c8 => ?_))))
     try simp only [cH, Nat.reduceAdd] at g2
     refine aB (aD rfl iF) (bJ rfl rfl (rfl) bY g2 rfl fun j9 g3 c9 => ?_)
     try simp only [cH, Nat.reduceAdd] at g3
     refine aB (aD rfl kQ) (bJ rfl rfl (rfl) fK g3 rfl fun k0 g4 d0 => ?_)
     try simp only [cH, Nat.reduceAdd] at g4
     refine wnn (aF (bN (aR (aQ (aY ?_))))); refine ⟨⟨x.r, 0, 0, x.cap, 1, x.ranges.length, rc, ra, false, x.name, a, c, ob⟩, ⟨rfl, trivial⟩, ⟨rfl, rfl, trivial⟩, (((J.step c8 H.mem1).step c9 H.mem1).step d0 H.mem1), ?_⟩
     exact ⟨(d0.blk (c9.blk (c8.blk E G.nmem1) G.nmem1) G.nmem1), g4, ⟨by rw [if_neg (show ¬ x.kind = 7 by omega)]; exact (d0.blk (c9.blk (c8.blk c6 D.nmem1) D.nmem1) D.nmem1), by rw [if_neg (show ¬ x.kind = 7 by omega)]; exact (((c7.evo c8 F.own1).evo c9 F.own1).evo d0 F.own1), hne⟩, .inl rfl, tZ (by omega) (by omega) (by simp only; split <;> first | rfl | omega) (by simp only; split <;> first | rfl | omega) (by simp only; split <;> first | rfl | omega) (by simp only; split <;> first | rfl | omega) (by simp only; split <;> first | rfl | omega) (by simp only; split <;> first | rfl | omega) (by simp only; split <;> first | rfl | omega) (by simp only; (repeat' split) <;> first | rfl | omega) (fun k => by omega) (fun k => by omega) (fun _ => by omega) (fun k => by omega)⟩
    refine aP (aP (aP (aP (aP (aP (eS ?_)))))); refine eS ?_; refine eS ?_; refine aP (aW (bR (bR (wnn (cF rfl ?_))))); refine aN (aC (csr (aB (aD rfl iG) (bJ rfl rfl (rfl) bY a7 rfl fun i4 e0 U => ?_))))
    try simp only [cH, Nat.reduceAdd] at e0
    refine aB (aD rfl iF) (bJ rfl rfl (rfl) bY e0 rfl fun i5 e3 V => ?_)
    try simp only [cH, Nat.reduceAdd] at e3
    refine aB (aD rfl kQ) (bJ rfl rfl (rfl) fK e3 rfl fun i6 e4 W => ?_)
    try simp only [cH, Nat.reduceAdd] at e4
    refine wnn (aF (bN (aR (aQ (aY ?_))))); refine ⟨⟨x.r, 0, 0, x.cap, 1, x.ranges.length, rc, ra, false, x.name, a, c, ob⟩, ⟨rfl, trivial⟩, ⟨rfl, rfl, trivial⟩, (((J.step U H.mem1).step V H.mem1).step W H.mem1), ?_⟩
    exact ⟨(W.blk (V.blk (U.blk E G.nmem1) G.nmem1) G.nmem1), e4, ⟨by rw [if_neg (show ¬ x.kind = 7 by omega)]; exact (W.blk (V.blk (U.blk c6 D.nmem1) D.nmem1) D.nmem1), by rw [if_neg (show ¬ x.kind = 7 by omega)]; exact (((c7.evo U F.own1).evo V F.own1).evo W F.own1), hne⟩, .inl rfl, tZ (by omega) (by omega) (by simp only; split <;> first | rfl | omega) (by simp only; split <;> first | rfl | omega) (by simp only; split <;> first | rfl | omega) (by simp only; split <;> first | rfl | omega) (by simp only; split <;> first | rfl | omega) (by simp only; split <;> first | rfl | omega) (by simp only; split <;> first | rfl | omega) (by simp only; (repeat' split) <;> first | rfl | omega) (fun k => by omega) (fun k => by omega) (fun _ => by omega) (fun k => by omega)⟩
   refine csr (wel ?_); refine wan (aZ rfl (fun i1 => ?_) (fun i1 => ?_))
   ·refine aM (csr (aA (wfl rfl mY rfl bD E rfl (wfl rfl kP rfl dG E rfl ?_)))); have hszc := (J).size; have hlt3 := Lt.blk E; have hlt5 := Lt.blk a7; refine aG (vs := [_, _, _]) GT rfl (VT ⟨c6, c7, hne⟩ hl bl2) rfl ?_; rintro _ i7 ⟨gb, rfl, hgb, d1, hgs⟩; have e5 := J.step d1 (fun y hy => .inl hy); have g5 := d1.blk E (NR d9.symm (Apart.new (Lt.own hO) e9).symm); refine aB (fV rfl) ?_; refine wnn (eO rfl (fun a8 => ?_) (fun a8 => ?_))
    ·refine csr (wan (aK (aE (aO (aE (aE (br1 ?_)))))))
     exact nv2 (fun hh => by rw [hgb.2 (hh.2 (by omega))] at a8; cases a8) e5
    obtain ⟨a2, c2, ob2, a9, hob2⟩ := hgs (by simpa using a8); have hgb2 := hgb.1 (by simpa using a8); have d9 := gX F.symm hlt5 hob2; refine aN (aC (csr (aB (aD rfl mY) (bJ rfl rfl (rfl) bY (d1.blk a7 (NR D.symm F.symm)) rfl fun i8 e6 Y => ?_))))
    try simp only [cH, Nat.reduceAdd] at e6
    refine aB (aD rfl kP) (bJ rfl rfl (rfl) lY e6 rfl fun i9 e7 Z => ?_)
    try simp only [cH, Nat.reduceAdd] at e7
    refine wnn (aF (bN (aR (aQ (aY ?_))))); refine ⟨⟨x.r, x.min, x.max, 0, 1, x.ranges.length, rc, ra, x.lazy, ByteArray.empty, a2, c2, ob2⟩, ⟨rfl, trivial⟩, ⟨rfl, rfl, trivial⟩, ((e5.step Y H.mem1).step Z H.mem1), ?_⟩; have hob3 : ob2 = ob ∨ ∃ g, ob2 = some g ∧ w.heap.size ≤ g := hob2.imp id (fun ⟨g, h1, h2⟩ => ⟨g, h1, Nat.le_trans hszc h2⟩)
    exact ⟨(Z.blk (Y.blk g5 G.nmem1) G.nmem1), e7, ⟨by rw [if_pos (show x.kind = 7 by omega)]; exact (Z.blk (Y.blk a9.blk D.nmem1) D.nmem1), by rw [if_pos (show x.kind = 7 by omega)]; exact ((a9.own.evo Y d9.symm.own1).evo Z d9.symm.own1), a9.ne⟩, hob3, tZ (by omega) (by omega) (by simp only; split <;> first | rfl | omega) (by simp only; split <;> first | rfl | omega) (by simp only; split <;> first | rfl | omega) (by simp only; split <;> first | rfl | omega) (by simp only; split <;> first | rfl | omega) (by simp only; split <;> first | rfl | omega) (by simp only; split <;> first | rfl | omega) (by simp only; (repeat' split) <;> first | rfl | omega) (fun k => by omega) (fun k => by omega) (fun k => by omega) (fun _ => hgb2)⟩
   refine csr (wan (aK (aO (aE (aE (br1 ?_))))))
   exact nvy (fun hf => by have f1 := hf.kind1; have f2 := hf.kind2; omega) J
  rintro ⟨r, mn, mx, cp, kd, rn, rc1, ra1, lz, nm, a2, c2, ob2⟩ j0 ⟨I, ⟨hb3, hb5, a9, hob3, hPL⟩⟩; refine aC ?_; show CW _ _ _ _ [(6, .int .i64 kd), (3, _), (5, _)] _
  try dsimp only at hb3 hb5 a9 hob3 hPL
  refine csr (wfl rfl eD rfl fB hb3 rfl (aB (bM rfl Tryz.underlying25 rfl) ?_)); refine aA (wel ?_); refine aA (bH (t := 91) rfl (fun d7 => ?_) (fun d7 => ?_))
  ·refine aW (aB (aD rfl jP) (aW (aB (aX rfl cD (bI hb5 rfl)) (aW (wel ?_))))); refine bW (aA (bH (t := 96) rfl (fun d8 => ?_) (fun d8 => ?_)))
   ·refine aW (aB (aD rfl gY) (aW (aB (aX rfl jV (bI hb5 rfl)) (aW (aB (bM rfl Tryz.underlying24 rfl) ?_))))); refine aW (wel ?_); refine bW (aA (bH (t := 102) rfl (fun d2 => ?_) (fun d2 => ?_)))
    ·refine aW (aB (aD rfl iG) (aW (aB (aX rfl bD (bI hb5 rfl)) (aW (wel ?_))))); refine bW (aA (bH (t := 107) rfl (fun d3 => ?_) (fun d3 => ?_)))
     ·refine aW (aB (aD rfl iF) (aW (aB (aX rfl bD (bI hb5 rfl)) (aW (wel ?_))))); refine bW (aA (bH (t := 112) rfl (fun d4 => ?_) (fun d4 => ?_)))
      ·refine aW (aB (aD rfl kQ) (aW (aB (aX rfl fI (bI hb5 rfl)) (aW (aB (fV rfl) ?_))))); refine bW (aA (nD (t := 117) rfl (fun a0 => ?_) (fun a0 => ?_)))
       ·refine aW (aB (aD rfl mY) (aW (aB (aX rfl bD (bI hb5 rfl)) (aW (wel ?_))))); refine bW (aA (bH (t := 122) rfl (fun d5 => ?_) (fun d5 => ?_)))
        ·refine aW (aB (aD rfl kP) (aW (aB (aX rfl dG (bI hb5 rfl)) (aW (aB (fX rfl rfl) ?_))))); refine bW (wan (aK (br1 ?_))); refine ⟨_, rfl, ?_, I, fun _ => ⟨a2, c2, ob2, a9, hob3⟩⟩; simp only [decide_eq_true_eq]; exact ⟨fun h9 => hPL.1 ⟨d7, d8, d2, d3, d4, by simpa using a0, d5, h9⟩, fun hh => (hPL.2 hh).2.2.2.2.2.2.2⟩
        refine aP (aP (aP (bR (wan (aK (br1 ?_)))))); exact nv2 (fun hh => d5 (hPL.2 hh).2.2.2.2.2.2.1) I
       refine aP (aP (aP (bR (aA (aP (aP (aP (bR (wan (aK (br1 ?_)))))))))))
       exact nv2 (fun hh => by have h9 : lz = false := (hPL.2 hh).2.2.2.2.2.1; rw [h9] at a0; cases a0) I
      refine aP (aP (aP (bR (aA (aP (aP (aP (bR (aA (aP (aP (aP (bR (bN ?_)))))))))))))); refine wnn (aK (br1 ?_)); exact nv2 (fun hh => d4 (hPL.2 hh).2.2.2.2.1) I
     refine aP (aP (aP (bR (aA (aP (aP (aP (bR (aA (aP (aP (aP (bR (aA ?_)))))))))))))); refine aP (aP (aP (bR (wan (aK (br1 ?_)))))); exact nv2 (fun hh => d3 (hPL.2 hh).2.2.2.1) I
    refine aP (aP (aP (bR (aA (aP (aP (aP (bR (aA (aP (aP (aP (bR (aA ?_)))))))))))))); refine aP (aP (aP (bR (aA (aP (aP (aP (bR (wan (aK (br1 ?_))))))))))); exact nv2 (fun hh => d2 (hPL.2 hh).2.2.1) I
   refine aP (aP (aP (aP (bR (aA (aP (aP (aP (bR (aA (aP (aP (aP (bR ?_)))))))))))))); refine aA (aP (aP (aP (bR (aA (aP (aP (aP (bR (aA (aP (aP (aP (bR ?_)))))))))))))); refine wan (aK (br1 ?_)); exact nv2 (fun hh => d8 (hPL.2 hh).2.1) I
  refine aP (aP (aP (bR (aA (aP (aP (aP (aP (bR (aA (aP (aP (aP (bR ?_)))))))))))))); refine aA (aP (aP (aP (bR (aA (aP (aP (aP (bR (aA (aP (aP (aP (bR ?_)))))))))))))); refine aA (aP (aP (aP (bR (wan (aK (br1 ?_))))))); exact nv2 (fun hh => d7 (hPL.2 hh).1) I
theorem qI : eU Tryz.prog 102 0 = some 0 := by kernel_rfl
theorem sS : dW Tryz.prog 55 := ⟨_, Tryz.func55, by kernel_rfl, by kernel_rfl⟩
theorem JR : dW Tryz.prog 84 := ⟨_, Tryz.func84, by kernel_rfl, by kernel_rfl⟩
theorem xU : dW Tryz.prog 85 := ⟨_, Tryz.func85, by kernel_rfl, by kernel_rfl⟩
def KM (st : St) : Prop := st.2.length ≤ st.1 ∧ st.1 ≤ 8194
theorem RRx.get {n : Nat} {X : List Nat} {w : World} {vs : List Value} {x : Rx} (h : RRx n X w vs x) : ∃ m ra rc ka kc, n = m + 1 ∧ vs = [iv x.kind, .int .i32 x.r, .slice ra x.ranges.length rc, iv x.min, iv x.max, .bool x.lazy, iv x.cap, .string x.name, .slice ka x.kids.length kc] ∧
    RSl 2 RRg X w (.slice ra x.ranges.length rc) x.ranges ∧ RSl 9 (RRx m) X w (.slice ka x.kids.length kc) x.kids ∧ x.ranges.length ≤ 140737488351232 ∧ x.name.size ≤ 140737488351232 ∧ x.kids.length ≤ 140737488351232 := by
  cases n with
  | zero => exact h.elim
  | succ n =>
    obtain ⟨vr, vk, h1, ⟨ra, rc, rfl, h2⟩, ⟨ka, kc, rfl, h3⟩, h4⟩ := h
    exact ⟨n, ra, rc, ka, kc, rfl, h1, ⟨ra, rc, rfl, h2⟩, ⟨ka, kc, rfl, h3⟩, h4⟩
set_option maxHeartbeats 4000000 in
theorem QU {n : Nat} (ih : ∀ (w : World) (jb : Nat) (st : St) (a : Option Addr) (c : Nat) (ob : Option Nat) (vs : List Value) (t : Rx) (b : Int), JAt w 102 jb st a c ob → RRx n (jb :: ob.toList) w vs t → KM st → 0 ≤ b → b ≤ 251 →
      Calls Tryz.prog 55 #[.pointer (some ⟨jb, 0, none⟩), .agg vs.toArray, .int .i64 b] w (Ret fun v w' => ∃ r, v = .bool r ∧ r = (t.fine b st).isSome ∧ Evo (jb :: ob.toList) w w' ∧ ∀ st', t.fine b st = some st' → KM st' ∧ ∃ a' c' ob', JAt w' 102 jb st' a' c' ob' ∧ ∀ g, ob' = some g → g ∈ ob.toList ∨ w.heap.size ≤ g))
    {w : World} {jb : Nat} {st : St} {a : Option Addr} {c : Nat} {ob : Option Nat} {vs : List Value} {t : Rx} {b : Int} (hJ : JAt w 102 jb st a c ob) (hx : RRx (n + 1) (jb :: ob.toList) w vs t) (hst : KM st) (hb0 : 0 ≤ b) (hb1 : b ≤ 251) :
      Calls Tryz.prog 55 #[.pointer (some ⟨jb, 0, none⟩), .agg vs.toArray, .int .i64 b] w (Ret fun v w' => ∃ r, v = .bool r ∧ r = (t.fine b st).isSome ∧ Evo (jb :: ob.toList) w w' ∧ ∀ st', t.fine b st = some st' → KM st' ∧ ∃ a' c' ob', JAt w' 102 jb st' a' c' ob' ∧ ∀ g, ob' = some g → g ∈ ob.toList ∨ w.heap.size ≤ g) := by
  obtain ⟨hB, hO, hne⟩ := hJ
  have hAJN : Apart (some jb) ob := fun g h1 h2 => by cases h1; exact hne jb h2 rfl
  have hlt := fF hB; have hst1 := hst.1; have hst2 := hst.2
  have hXlt : ∀ y, y ∈ jb :: ob.toList → y < w.heap.size := fun y hy => by
    rcases List.mem_cons.1 hy with h | h
    · rw [h]; exact hlt
    · have : ob = some y := by simpa using h
      subst this; exact hO.lt
  have hx0 := hx; obtain ⟨m, ra, rc, ka, kc, hm, rfl, hrg, hk, bl1, bl2, bl3⟩ := hx.get
  obtain rfl : m = n := by omega
  obtain ⟨_, _, hke, hkc, e1⟩ := hk; cases hke; refine bE (N := 57) Tryz.func55 rfl rfl rfl ?_; refine csr (iM rfl rfl fun b4 w1 d7 F a5 => ?_); have d8 := F; have a6 := Apart.new (Lt.blk hB) F; have c9 := Apart.new (Lt.own hO) F; refine wan (csr (aA (aB (aH rfl) (wfl rfl qI rfl bD (a5.blk0 hB) rfl ?_)))); refine aB (aI rfl rfl (by omega) (by omega)) ?_; refine aB (aH rfl) (aB (aD rfl qI) (bJ rfl rfl (rfl) bY (a5.blk0 hB) rfl fun a7 a1 a4 => ?_))
  have d0 := ((Evo.refl (jb :: ob.toList) w).then a5).step a4 (fun y hy => .inl (by rw [List.mem_singleton.1 hy]; exact List.mem_cons_self ..))
  have a8 := a4.blk d7 a6.symm.nmem1
  try simp only [cH, Nat.reduceAdd] at a1
  refine wnn (aM (gR (α := Int) (fun z => [(2, .int .i64 z)]) [(0, _), (4, _), (6, _)] (fun z wr => Evo [] a7 wr ∧ (z = if t.kind = 7 then b + 1 else b)) ⟨rfl, rfl, rfl, trivial⟩ ?_ ?_))
  ·refine csr (wfl rfl eR rfl bD a8 rfl (wel ?_)); refine wnn (aZ rfl (fun d1 => ?_) (fun d1 => ?_))
   ·refine aF (aA ?_); refine aB (aI rfl rfl (by omega) (by omega)) ?_; refine bN (aR (aY ?_)); refine ⟨(b + 1), ⟨rfl, trivial⟩, ⟨rfl, rfl, rfl, trivial⟩, (Evo.refl [] a7), ?_⟩; rw [if_pos (by assumption)]
   refine aN (aY ?_); refine ⟨b, ⟨rfl, trivial⟩, ⟨rfl, rfl, rfl, trivial⟩, (Evo.refl [] a7), ?_⟩; rw [if_neg (by assumption)]
  rintro z e3 ⟨I, hz⟩; refine aC ?_; show CW _ _ _ _ [(2, _), (0, _), (4, _), (6, _)] _; have D := d0.then I; have J := I.blk0 a8; refine aM (csr (aA (aB (aH rfl) (wfl rfl qI rfl bD (I.blk0 a1) rfl (aB (eW rfl rfl) ?_))))); refine aA (bH (t := 27) rfl (fun d2 => ?_) (fun d2 => ?_))
  ·refine aP (aP (bW (aA (aP (aP ?_))))); have hlt4 := Lt.blk J; have hszc := (D).size; refine aP (aP (bW (wnn (cZ rfl ?_)))); refine csr (wan (aK (aE (br1 ?_))))
   have hno := vA (x := t) (b := b) (st := st) (fun h => by have := h.1; omega)
   exact ⟨false, rfl, by rw [hno]; rfl, D, fun st' h => by rw [hno] at h; cases h⟩
  refine aW (aA (aW (aB (eW rfl rfl) ?_))); refine bR (aA (bH (t := 31) rfl (fun E => ?_) (fun E => ?_)))
  ·refine aP (aP ?_); have hlt4 := Lt.blk J; have hszc := (D).size; refine aP (aP (bW (wnn (cZ rfl ?_)))); refine csr (wan (aK (aE (br1 ?_))))
   have hno := vA (x := t) (b := b) (st := st) (fun h => by have := h.2.1; rw [← hz] at this; omega)
   exact ⟨false, rfl, by rw [hno]; rfl, D, fun st' h => by rw [hno] at h; cases h⟩
  refine aW (aA (aW (aB (bX rfl bF aJ J rfl) ?_))); have hlt4 := Lt.blk J; have hszc := (D).size; refine aW ?_
  refine aG (vs := [_, _]) JR rfl (LY (st := (st.1 + 1, st.2)) ⟨(I.blk0 a1), (((hO.evo0 a5).evo a4 hAJN.symm.own1).evo0 I), hne⟩ (RRx.pers _ _ _ _ _ _ D hx0) (by simp only; omega)) rfl ?_
  rintro _ e4 ⟨fb, rfl, hfb, a9, hfs⟩; have b5 := D.step a9 (fun y hy => .inl hy); have b6 := a9.blk J (NR a6.symm c9.symm); refine aW (aB (fV rfl) ?_); refine bR (wnn (eO rfl (fun L => ?_) (fun L => ?_)))
  ·refine csr (wan (aK (aE (br1 ?_))))
   have hno := vA (x := t) (b := b) (st := st) (fun h => by have := hfb.2 ⟨h.2.2.1, h.2.2.2⟩; rw [this] at L; cases L)
   exact ⟨false, rfl, by rw [hno]; rfl, b5, fun st' h => by rw [hno] at h; cases h⟩
  obtain ⟨a2, c2, ob2, b7, hob2⟩ := hfs (by simpa using L); have hfb2 := hfb.1 (by simpa using L); have d9 := gX c9.symm hlt4 hob2
  have hfin0 := sF (x := t) (b := b) (st := st) ⟨by omega, by rw [← hz]; omega, hfb2.1, hfb2.2⟩
  have hst9 : KM (st.1 + 1, if t.kind = 7 then st.2 ++ [t.name] else st.2) := ⟨by show (if t.kind = 7 then st.2 ++ [t.name] else st.2).length ≤ st.1 + 1; split; (rw [List.length_append]; simp; omega); omega, by show st.1 + 1 ≤ 8194; omega⟩
  have hg9 : ∀ g, ob2 = some g → g ∈ ob.toList ∨ w.heap.size ≤ g := fun g hg => by rcases hob2 with h | ⟨g', h1, h2⟩; left; rw [← h, hg]; simp; right; rw [hg] at h1; cases h1; exact Nat.le_trans hszc h2
  refine aN (aC (aM (csr (wfl rfl eD rfl fB b6 rfl (aB (bM rfl Tryz.underlying25 rfl) ?_))))); refine aA (wnn (bK ?_))
  refine dL (α := Nat × St × Option Addr × Nat × Option Nat) ((0, (st.1 + 1, if t.kind = 7 then st.2 ++ [t.name] else st.2), a2, c2, ob2)) (fun x => [(40, .int .i64 (x.1 : Nat))]) [(0, _), (2, _), (4, _), (38, _), (39, _)] (fun x wr => Evo (jb :: ob.toList) w wr ∧ (x.1 ≤ t.kids.length ∧ KM x.2.1 ∧ JAt wr 102 jb x.2.1 x.2.2.1 x.2.2.2.1 x.2.2.2.2 ∧ t.fine b st = gG (t.kids.drop x.1) t.kind z x.2.1 ∧ (∀ g, x.2.2.2.2 = some g → g ∈ ob.toList ∨ w.heap.size ≤ g) ∧ wr.heap[b4]? = some (.cells #[iv t.kind, .int .i32 t.r, .slice ra t.ranges.length rc, iv t.min, iv t.max, .bool t.lazy, iv t.cap, .string t.name, .slice ka t.kids.length kc] 27 (0, 0)) ∧ b4 ∉ jb :: x.2.2.2.2.toList)) (fun x => t.kids.length - x.1) ⟨rfl, trivial⟩ ⟨rfl, rfl, rfl, rfl, rfl, trivial⟩ ⟨b5, ⟨Nat.zero_le _, hst9, ⟨b7.blk, b7.own, b7.ne⟩, by rw [hfin0, ← hz]; rfl, hg9, b6, NR a6.symm d9⟩⟩ ?_
  rintro ⟨j, s, a', c', o'⟩ wr27 ⟨V, ⟨hj, hsok, ⟨hB', hO', hne'⟩, hfin, hgo, b9, hb4o⟩⟩; show CW _ _ _ _ [(40, .int .i64 (j : Nat)), (0, _), (2, _), (4, _), (38, _), (39, _)] _
  try dsimp only at hj hsok hB' hO' hne' hfin hgo b9 hb4o
  have hAJN' : Apart (some jb) o' := fun g h1 h2 => by cases h1; exact hne' jb h2 rfl
  have hA4J : Apart (some b4) (some jb) := fun g h1 h2 => by cases h1; cases h2; exact hb4o (by simp)
  have hA4N : Apart (some b4) o' := fun g h1 h2 => by cases h1; exact hb4o (by simp [h2])
  have hyo : ∀ y, y ∈ jb :: o'.toList → y ∈ jb :: ob.toList ∨ w.heap.size ≤ y := fun y hy => by rcases List.mem_cons.1 hy with h | h; left; rw [h]; simp; rcases hgo y (by simpa using h) with h1 | h1; left; exact List.mem_cons_of_mem _ h1; exact .inr h1
  skip
  refine csr (aB (dA rfl rfl) ?_); refine wnn (aM (aZ rfl (fun d3 => ?_) (fun d3 => ?_)))
  ·have hj' : j < t.kids.length := by omega
   obtain ⟨b1, o1, vs1, ha1, hb1, hvl1, e0, hrk⟩ := e1 j hj'; obtain ⟨m1, ra1, rc1, ka1, kc1, rfl, rfl, -⟩ := id hrk.get; refine aN (aC (aM (bK (csr ?_))))
   refine aB (iE (n := j) (by rw [ha1]; rfl) rfl dO (by omega)) ?_
   refine aB (eB rfl bF aJ (vs := [_, _, _, _, _, _, _, _, _]) rfl (e0.evo V hb1)) ?_; refine cO rfl dC fun b8 e5 d4 E W => ?_; have e2 := E; refine aV rfl rfl aJ d4 rfl rfl ⟨rfl, rfl, rfl, rfl, rfl, rfl, rfl, rfl, rfl, trivial⟩ fun e6 Y Z => ?_; have c0 := Z.blk (W.blk0 b9) (Apart.new (Lt.blk b9) E).nmem1
   try simp only [cH, Nat.reduceAdd] at Y
   refine wnn (csr (wan (aM (csr (wfl rfl eR rfl bD Y rfl (wfl rfl eR rfl bD c0 rfl (aG (vs := [_, _]) xU rfl (vF t.kids[j].kind t.kind) rfl ?_))))))); rintro _ e7 ⟨rfl, G⟩; have H := ((V.then W).step Z (Ge.new V E).mem1).then G; have c1 := G.blk0 (Z.blk (W.blk0 hB') (Apart.new (Lt.blk hB') E).nmem1); have c4 := ((hO'.evo0 W).evo Z (Apart.new (Lt.own hO') E).own1).evo0 G; have a0 := G.blk0 c0; refine wnn (aZ rfl (fun M => ?_) (fun M => ?_))
   ·refine aF (wan (csr (aA (aB (bX rfl bF aJ (G.blk0 Y) rfl) (aA (aA ?_)))))); refine aB (aI rfl rfl (by omega) (by omega)) ?_; have hsz54 := (H).size; have hlb4 := fF a0; refine aG (vs := [_, _, _]) sS rfl (ih _ jb s a' c' o' _ t.kids[j] _ ⟨c1, c4, hne'⟩ (RRx.step hrk H hyo hXlt) hsok (by omega) (by omega)) rfl ?_; rintro _ e8 ⟨r, rfl, hr, c5, O⟩; have c6 := H.step c5 (hyo); have d5 := c5.blk a0 (hb4o); refine aB (fV rfl) ?_; refine wnn (eO rfl (fun B => ?_) (fun B => ?_))
    ·refine csr (wan (aK (aO (aE (aE (aO (aE (br1 ?_)))))))); rw [show (z + 1 : Int) = z + (if Brk t.kids[j].kind t.kind then 1 else 0) from by rw [if_pos M]] at hr O
     have hn : t.kids[j].fine (z + if Brk t.kids[j].kind t.kind then 1 else 0) s = none := by
       cases h : t.kids[j].fine (z + if Brk t.kids[j].kind t.kind then 1 else 0) s with
       | none => rfl
       | some s3 => rw [h] at hr; simp at hr; rw [hr] at B; cases B
     have hno : t.fine b st = none := by rw [hfin, pZ hj', hn]
     exact ⟨false, rfl, by rw [hno]; rfl, c6, fun st' h => by rw [hno] at h; cases h⟩
    rw [show (z + 1 : Int) = z + (if Brk t.kids[j].kind t.kind then 1 else 0) from by rw [if_pos M]] at hr O
    obtain ⟨s3, F⟩ := Option.isSome_iff_exists.1 (show (t.kids[j].fine _ s).isSome = true by rw [← hr]; simpa using B)
    obtain ⟨hsok3, a3, c3, o3, U, ho3⟩ := O s3 F
    have hg3 : ∀ g, o3 = some g → g ∈ ob.toList ∨ w.heap.size ≤ g := fun g hg => by rcases ho3 g hg with h | h; exact hgo g (by simpa using h); exact .inr (Nat.le_trans hsz54 h)
    have hb43 : b4 ∉ jb :: o3.toList := fun hm => by rcases List.mem_cons.1 hm with h | h; exact hb4o (by rw [h]; simp); rcases ho3 b4 (by simpa using h) with h1 | h1; exact hb4o (List.mem_cons_of_mem _ h1); omega
    refine aN (aQ (aC (aF ?_))); refine aB (aI rfl rfl (by omega) (by omega)) ?_; refine aA (aR (aY ?_)); refine ⟨(j + 1, s3, a3, c3, o3), ?_, ⟨rfl, trivial⟩, ⟨rfl, rfl, rfl, rfl, rfl, trivial⟩, c6, ?_⟩
    · (try dsimp only); omega
    try dsimp only
    refine ⟨by omega, hsok3, ⟨U.blk, U.own, U.ne⟩, ?_, hg3, d5, hb43⟩; rw [hfin, pZ hj', F]
   refine aN (aC (csr (aA (aB (bX rfl bF aJ (G.blk0 Y) rfl) (aA (aA ?_)))))); refine aB (aI rfl rfl (by omega) (by omega)) ?_; have hsz54 := (H).size; have hlb4 := fF a0; refine aG (vs := [_, _, _]) sS rfl (ih _ jb s a' c' o' _ t.kids[j] _ ⟨c1, c4, hne'⟩ (RRx.step hrk H hyo hXlt) hsok (by omega) (by omega)) rfl ?_; rintro _ e9 ⟨r, rfl, hr, c7, O⟩; have c8 := H.step c7 (hyo); have d6 := c7.blk a0 (hb4o); refine aB (fV rfl) ?_; refine wnn (eO rfl (fun B => ?_) (fun B => ?_))
   ·refine csr (wan (aK (aO (aE (aE (aO (aE (br1 ?_)))))))); rw [show (z + 0 : Int) = z + (if Brk t.kids[j].kind t.kind then 1 else 0) from by rw [if_neg M]] at hr O
    have hn : t.kids[j].fine (z + if Brk t.kids[j].kind t.kind then 1 else 0) s = none := by
      cases h : t.kids[j].fine (z + if Brk t.kids[j].kind t.kind then 1 else 0) s with
      | none => rfl
      | some s3 => rw [h] at hr; simp at hr; rw [hr] at B; cases B
    have hno : t.fine b st = none := by rw [hfin, pZ hj', hn]
    exact ⟨false, rfl, by rw [hno]; rfl, c8, fun st' h => by rw [hno] at h; cases h⟩
   rw [show (z + 0 : Int) = z + (if Brk t.kids[j].kind t.kind then 1 else 0) from by rw [if_neg M]] at hr O
   obtain ⟨s3, F⟩ := Option.isSome_iff_exists.1 (show (t.kids[j].fine _ s).isSome = true by rw [← hr]; simpa using B)
   obtain ⟨hsok3, a3, c3, o3, U, ho3⟩ := O s3 F
   have hg3 : ∀ g, o3 = some g → g ∈ ob.toList ∨ w.heap.size ≤ g := fun g hg => by rcases ho3 g hg with h | h; exact hgo g (by simpa using h); exact .inr (Nat.le_trans hsz54 h)
   have hb43 : b4 ∉ jb :: o3.toList := fun hm => by rcases List.mem_cons.1 hm with h | h; exact hb4o (by rw [h]; simp); rcases ho3 b4 (by simpa using h) with h1 | h1; exact hb4o (List.mem_cons_of_mem _ h1); omega
   refine aN (aQ (aC (aF ?_))); refine aB (aI rfl rfl (by omega) (by omega)) ?_; refine aA (aR (aY ?_)); refine ⟨(j + 1, s3, a3, c3, o3), ?_, ⟨rfl, trivial⟩, ⟨rfl, rfl, rfl, rfl, rfl, trivial⟩, c8, ?_⟩
   · (try dsimp only); omega
   try dsimp only
   refine ⟨by omega, hsok3, ⟨U.blk, U.own, U.ne⟩, ?_, hg3, d6, hb43⟩; rw [hfin, pZ hj', F]
  refine cW (bS (bS (cV (aC ?_)))); refine csr (wan (aK (br1 ?_)))
  have hn : t.fine b st = some s := by rw [hfin, EZ (by omega)]
  exact ⟨true, rfl, by rw [hn]; rfl, V, fun st' h => by rw [hn] at h; cases h; exact ⟨hsok, a', c', o', ⟨hB', hO', hne'⟩, hgo⟩⟩
theorem FQ : pF Tryz.prog 102 = some #[.int .i64 0, .slice none 0 0] := by kernel_rfl
theorem OK : ∀ {n : Nat} {w : World} {jb : Nat} {st : St} {a : Option Addr} {c : Nat} {ob : Option Nat} {vs : List Value} {t : Rx} {b : Int}, JAt w 102 jb st a c ob → RRx n (jb :: ob.toList) w vs t → KM st → 0 ≤ b → b ≤ 251 →
      Calls Tryz.prog 55 #[.pointer (some ⟨jb, 0, none⟩), .agg vs.toArray, .int .i64 b] w (Ret fun v w' => ∃ r, v = .bool r ∧ r = (t.fine b st).isSome ∧ Evo (jb :: ob.toList) w w' ∧ ∀ st', t.fine b st = some st' → KM st' ∧ ∃ a' c' ob', JAt w' 102 jb st' a' c' ob' ∧ ∀ g, ob' = some g → g ∈ ob.toList ∨ w.heap.size ≤ g)
  | 0, w, jb, st, a, c, ob, vs, t, b, hJ, hx, hs, h0, h1 => hx.elim
  | n + 1, w, jb, st, a, c, ob, vs, t, b, hJ, hx, hs, h0, h1 => QU (n := n) (fun w jb st a c ob vs t b hJ hx hs h0 h1 => OK hJ hx hs h0 h1) hJ hx hs h0 h1
theorem JAt.new {w : World} {jb : Nat} {T : TypeId} (h : w.heap[jb]? = some (.cells #[iv 0, .slice none 0 0] T (0, 0))) : JAt w T jb (0, []) none 0 none := ⟨h, OwnS.nil _ _ _, fun g hg => by cases hg⟩
theorem zE {n : Nat} {w : World} {vs : List Value} {t : Rx} (hx : RRx n [] w vs t) :
    Calls Tryz.prog 24 #[.agg vs.toArray] w (Ret fun v w' => ∃ r, v = .bool r ∧ (r = true ↔ t.Ok) ∧ Evo [] w w') := by
  have hx0 := hx; obtain ⟨m, ra, rc, ka, kc, hm, rfl, hrg, hk, bl1, bl2, bl3⟩ := hx.get; refine bE (N := 6) Tryz.func24 rfl rfl rfl ?_; refine csr (iM rfl rfl fun b1 w2 G L H => ?_); have E := (Evo.refl [] w).then H; refine wan (csr (cO rfl FQ fun jb w8 I B D => ?_)); have J := B; refine aB (bX rfl bF aJ (D.blk0 G) rfl) ?_; refine aG (vs := [_, _, _]) sS rfl (OK (st := (0, [])) (JAt.new I) (RRx.step hx0 (E.then D) (Ge.new E B).mem1 (fun b hb => by cases hb)) ⟨Nat.le_refl _, by decide⟩ (by decide) (by decide)) rfl ?_; rintro _ M ⟨r, rfl, hr, F, -⟩; refine wan (aK (br1 ?_))
  exact ⟨r, rfl, by rw [hr, Option.isSome_iff_exists]; rfl, ((E.then D).step F ((Ge.new E B).mem1))⟩
end Go.Proofs.YtljadkcojnlioaaGreatDoor
namespace Go.Proofs.YtljadkcojnlioaaGreatDoor
open Go.RowKit Go.Shelf Go.W
attribute [local irreducible] Decidable.decide
theorem nJ : nU Tryz.prog 78 = some false := by kernel_rfl
def bren : Go.Shelf.Ren := ⟨fun | 240 => 70 | 276 => 98 | 169 => 43 | n => n, fun | 0 => 0 | 3 => 3 | 4 => 4 | 5 => 5 | 9 => 9 | 20 => 20 | 37 => 78 | 70 => 77 | 72 => 80 | 127 => 121 | 164 => 142 | n => n, fun | n => n⟩
theorem NX : Go.Proofs.Lays.n240 Tryz.prog bren := {
  mixed := by kernel_rfl
  f240 := Tryz.func70.trans (congrArg some (by kernel_rfl))
  f276 := Tryz.func98.trans (congrArg some (by kernel_rfl))
  t0 := Tryz.underlying0
  a0 := Tryz.isAgg0
  z0 := Tryz.sizeOf0
  v0 := Tryz.zeroValue0
  t4 := Tryz.underlying4
  a4 := Tryz.isAgg4
  z4 := Tryz.sizeOf4
  v4 := Tryz.zeroValue4
  t9 := Tryz.underlying9
  a9 := Tryz.isAgg9
  z9 := Tryz.sizeOf9
  v9 := Tryz.zeroValue9
  t20 := Tryz.underlying20
  a20 := Tryz.isAgg20
  z20 := Tryz.sizeOf20
  v20 := Tryz.zeroValue20
  t70 := Tryz.underlying77
  a70 := Tryz.isAgg77
  z70 := Tryz.sizeOf77
  v70 := Tryz.zeroValue77
  t72 := Tryz.underlying80
  a72 := Tryz.isAgg80
  z72 := Tryz.sizeOf80
  v72 := Tryz.zeroValue80
  t164 := Tryz.underlying142
  a164 := Tryz.isAgg142
  z164 := Tryz.sizeOf142
  v164 := Tryz.zeroValue142 }
theorem lays169 : Go.Proofs.Lays.n169 Tryz.prog bren := {
  mixed := by kernel_rfl
  f169 := Tryz.func43.trans (congrArg some (by kernel_rfl))
  t0 := Tryz.underlying0
  a0 := Tryz.isAgg0
  z0 := Tryz.sizeOf0
  v0 := Tryz.zeroValue0
  t3 := Tryz.underlying3
  a3 := Tryz.isAgg3
  z3 := Tryz.sizeOf3
  v3 := Tryz.zeroValue3
  t9 := Tryz.underlying9
  a9 := Tryz.isAgg9
  z9 := Tryz.sizeOf9
  v9 := Tryz.zeroValue9
  t37 := Tryz.underlying78
  a37 := Tryz.isAgg78
  z37 := Tryz.sizeOf78
  v37 := Tryz.zeroValue78
  t70 := Tryz.underlying77
  a70 := Tryz.isAgg77
  z70 := Tryz.sizeOf77
  v70 := Tryz.zeroValue77
  t72 := Tryz.underlying80
  a72 := Tryz.isAgg80
  z72 := Tryz.sizeOf80
  v72 := Tryz.zeroValue80
  t127 := Tryz.underlying121
  a127 := Tryz.isAgg121
  z127 := Tryz.sizeOf121
  v127 := Tryz.zeroValue121 }
theorem bextra : Builder.Extra Tryz.prog bren := {
  sizeBuilder := by kernel_rfl
  liesBuilder := by kernel_rfl
  t5 := Tryz.underlying5
  a5 := Tryz.isAgg5
  z5 := Tryz.sizeOf5
  v5 := Tryz.zeroValue5
  infoByte := by kernel_rfl
  cellsByte := by kernel_rfl
  sizeByte := by kernel_rfl
  neB5 := by decide }
theorem rG {w : World} {b : Nat} {p v : Value} (hb : w.heap[b]? = some (.cells #[p, v] 80 (0, 0))) (hp : p = .pointer none ∨ p = .pointer (some ⟨b, 0, none⟩)) :
    Calls Tryz.prog 70 #[.pointer (some ⟨b, 0, none⟩)] w (Ret fun r w' => r = .tuple #[] ∧ w'.heap[b]? = some (.cells #[.pointer (some ⟨b, 0, none⟩), v] 80 (0, 0)) ∧ Evo [b] w w') := by
  have h0 : w.cell? ⟨b, 0, none⟩ = some p := by simp [World.cell?, hb]
  rcases hp with rfl | rfl
  · refine (Any.Builder_copyCheck_fresh NX bextra.toX72 b w h0 (by simp [World.shape?, hb]; rfl) (by simp [World.frozen?, hb])).mono ?_
    rintro e w' ⟨rfl, rfl⟩
    exact ⟨_, rfl, rfl, by simp [World.setCell, Array.getElem?_modify, hb], xN w ⟨b, 0, none⟩ _⟩
  · refine (Any.Builder_copyCheck_used NX bextra.toX72 b w h0).mono ?_
    rintro e w' ⟨rfl, rfl⟩
    exact ⟨_, rfl, rfl, hb, Evo.refl _ _⟩
end Go.Proofs.YtljadkcojnlioaaGreatDoor
