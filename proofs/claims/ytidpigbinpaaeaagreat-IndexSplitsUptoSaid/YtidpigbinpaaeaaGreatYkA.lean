/- Splits: part 1 of 6 of what the law rests on. -/
import Derived.Test.YtidpigbinpaaeaaGreatRows
import Derived.WalkKit
import Derived.OrdersHeld
import Derived.Deep.LoopGhost
import Derived.Deep.Quiet
import Derived.KernelRfl
import Derived.ProofKit
import Derived.OpenShut
import Derived.SizedLaws
import Derived.ChangeOld
import Derived.JoinedCond
import Derived.Deep.DeepHandedRow
import Derived.HandedShaped
import Derived.Lib.LaidTab
import Derived.Lay
import Derived.Shelf.Strings.Builder1
import Derived.Shelf.Small.Bits
import Derived.Shelf.Small.Strs
import Derived.Shelf.Strings.BuilderF
import Derived.Shelf.Strings.BuilderK
import Derived.Shelf.Strconv.Itoa0
import Derived.Shelf.Strings.Search1
import Derived.Shelf.Strings.Search2
import Derived.Shelf.Strings.Search3
import Derived.Shelf.LaysM
import Derived.Shelf.Strings.Shaped
import Derived.Shelf.Sort.Plain
import Derived.Shelf.Strings.Prefix
import Derived.Ground.Names2Prog
import Derived.Shelf.Slices.Clone
import Derived.Shelf.Slices.CompactI
import Derived.Shelf.Slices.SearchI
import Derived.Shelf.Slices.Cells
import Derived.Shelf.Slices.In.SortNone
import Derived.Shelf.Slices.Empties
import Derived.Ground.SlgnProg
import Derived.Shelf.SlicesE.Clone
import Derived.Test.YtidpigbinpaaeaaGreatProg
import Derived.Shelf.SlSortCmp.WholeK
import Derived.Ground.SlsfProg
import Derived.Laws.MakeOwn
import Derived.Laws.OwnMore
import Derived.Laws.BytesString
import Derived.Laws.RangeAny
import Derived.Laws.Strings2
import Derived.Laws.Slices
import Derived.Laws.Small
import Derived.Laws.Concat
import Derived.Lib.DecodeN
import Derived.Scope
import Derived.RangeFuncNested
import Derived.RangeFuncLeaves
import Derived.RangeFuncCalls
import Derived.TacticsIn
import Derived.OwnWalkIn
import Derived.Maps.RangeRun
import Derived.Laws.Cover1
import Derived.Sort.Walk0
import Derived.RangeFuncBox
import Derived.Shelf.Abstract
import Derived.TacticsInMore
import Derived.LoopNIn
import Derived.LoopIn
import Derived.Maps.AppendAt
import Derived.WalkSmall
import Derived.Recover
import Derived.Lib.AppendStr
import Derived.Shelf.Strings.Builder2
import Derived.Lib.TrailingZeros
import Derived.Shelf.GgSortFunc.RowK
import Derived.Shelf.SlSortCmp.NoneTotal
import Derived.Lib.Index
import Derived.Lib.ItoaNum
import Derived.Shelf.Slices.CompactS
import Derived.Lib.Repeat
set_option linter.unusedSectionVars false
set_option linter.unusedSimpArgs false
set_option linter.unusedVariables false
namespace Go.W
theorem cG : (∀ {α : Type} (l : List α) (i : Nat) (a : α), l.toArray.setIfInBounds i a = (l.set i a).toArray) ∧ (∀ {α : Type} (x a : α) (l : List α), (x :: l).set 0 a = a :: l) ∧ (∀ {α : Type} (x a : α) (l : List α) (n : Nat), (x :: l).set (n + 1) a = x :: l.set n a) ∧ (∀ n : Nat, 0 + n = n) ∧ (∀ n : Nat, n + 0 = n) := ⟨fun _ _ _ => List.setIfInBounds_toArray .., fun _ _ _ => rfl, fun _ _ _ _ => rfl, Nat.zero_add, Nat.add_zero⟩
abbrev Env := List (Nat × Value)
def Env.get : Env → Nat → Option Value
  | [], _ => none
  | (k, v) :: r, t => cond (Nat.beq k t) (some v) (Env.get r t)
def Env.ev (σ : Env) : Operand → Option Value
  | .tmp t => σ.get t
  | .const v => some v
  | .global g => some (.pointer (some ⟨g, 0, none⟩))
  | .func f => some (.func (.func f) #[] #[])
abbrev NN := Nat × List Deferred
def Fits (N : NN) (σ : Env) (a : Act) : Prop := a.tmps.size = N.1 ∧ a.defers = N.2 ∧ ∀ t v, σ.get t = some v → a.tmps.getD t undef = v
def MI (σ : Env) (ρ : Operand → Value) : Prop := ∀ x v, σ.ev x = some v → ρ x = v
theorem Fits.agrees {N : NN} {σ : Env} {a : Act} (h : Fits N σ a) : MI σ a.eval := by
  intro x v hx
  cases x with
  | tmp t => exact h.2.2 t v hx
  | const u => simp only [Env.ev, Option.some.injEq] at hx; exact hx
  | global g => simp only [Env.ev, Option.some.injEq] at hx; exact hx
  | func f => simp only [Env.ev, Option.some.injEq] at hx; exact hx
theorem Fits.put {N : NN} {σ : Env} {a : Act} (h : Fits N σ a) {d : Nat} (hd : d < N.1) (v : Value) : Fits N ((d, v) :: σ) (a.put (some d) v) := by
  refine ⟨by simp [Act.put, h.1], h.2.1, fun t u hu => ?_⟩
  simp only [Env.get] at hu
  cases hk : Nat.beq d t with
  | true =>
    rw [hk] at hu
    have : d = t := Nat.eq_of_beq_eq_true hk
    subst this
    simp only [cond_true, Option.some.injEq] at hu
    have hs : d < a.tmps.size := by rw [h.1]; exact hd
    simp [Act.put, hs, hu]
  | false =>
    rw [hk] at hu
    have hne : d ≠ t := Nat.ne_of_beq_eq_false hk
    have := h.2.2 t u hu
    simp only [Act.put, Array.getD_eq_getD_getElem?, Array.getElem?_setIfInBounds_ne hne] at this ⊢
    exact this
def Sub : Env → Env → Prop
  | [], _ => True
  | (k, v) :: r, σ => σ.get k = some v ∧ Sub r σ
theorem Sub.get {S σ : Env} (h : Sub S σ) : ∀ t v, S.get t = some v → σ.get t = some v := by
  induction S with
  | nil => intro t v hv; cases hv
  | cons p r ih =>
    obtain ⟨k, u⟩ := p
    intro t v hv
    simp only [Env.get] at hv
    cases hk : Nat.beq k t with
    | true =>
      rw [hk] at hv
      have : k = t := Nat.eq_of_beq_eq_true hk
      subst this
      simp only [cond_true, Option.some.injEq] at hv
      subst hv
      exact h.1
    | false => rw [hk] at hv; exact ih h.2 t v hv
theorem Env.get_append {A B : Env} : ∀ t v, (A ++ B).get t = some v → A.get t = some v ∨ (A.get t = none ∧ B.get t = some v) := by
  induction A with
  | nil => intro t v h; exact .inr ⟨rfl, h⟩
  | cons p r ih =>
    obtain ⟨k, u⟩ := p
    intro t v h
    simp only [List.cons_append, Env.get] at h ⊢
    cases hk : Nat.beq k t with
    | true => rw [hk] at h; exact .inl h
    | false => rw [hk] at h; exact ih t v h
theorem Fits.app {N : NN} {A B σ τ : Env} {a : Act} (hA : Sub A σ) (hB : Sub B τ) (h : Fits N σ a) (h' : Fits N τ a) : Fits N (A ++ B) a :=
  ⟨h.1, h.2.1, fun t v hv => by
    rcases Env.get_append t v hv with h1 | ⟨_, h1⟩
    · exact h.2.2 t v (hA.get t v h1)
    · exact h'.2.2 t v (hB.get t v h1)⟩
abbrev gX := Exit → NN → Env → World → Prop
def toQ (R : gX) : Exit → Act → World → Prop
  | .panic c, a, w => ∃ N σ, Fits N σ a ∧ R (.panic c) N σ w
  | .outgrown, _, w => ∃ N : NN, R .outgrown N [] w
  | .normal, a, w => ∃ N σ, Fits N σ a ∧ R .normal N σ w
  | .exit i, a, w => ∃ N σ, Fits N σ a ∧ R (.exit i) N σ w
  | .goto l, a, w => ∃ N σ, Fits N σ a ∧ R (.goto l) N σ w
  | .ret, a, w => ∃ N σ, Fits N σ a ∧ R .ret N σ w
def CW (P : Program) (N : NN) (c : Code) (R : gX) (σ : Env) (w : World) : Prop := ∀ a, Fits N σ a → c.wp P (toQ R) a w
def qW (K : NN → Env → World → Prop) (R : gX) : gX
  | .normal, N, σ, w => K N σ w
  | .exit i, N, σ, w => R (.exit i) N σ w
  | .goto l, N, σ, w => R (.goto l) N σ w
  | .ret, N, σ, w => R .ret N σ w
  | .panic c, N, σ, w => R (.panic c) N σ w
  | .outgrown, N, σ, w => R .outgrown N σ w
def yR (id : Nat) (R : gX) : gX
  | .exit i, N, σ, w => cond (Nat.beq i id) (R .normal N σ w) (R (.exit i) N σ w)
  | .normal, N, σ, w => R .normal N σ w
  | .goto l, N, σ, w => R (.goto l) N σ w
  | .ret, N, σ, w => R .ret N σ w
  | .panic c, N, σ, w => R (.panic c) N σ w
  | .outgrown, N, σ, w => R .outgrown N σ w
section
variable {P : Program} {N : NN} {R : gX} {σ : Env} {w : World}
theorem aI {x y : Code} (h : CW P N x (qW (fun N σ w => CW P N y R σ w) R) σ w) : CW P N (.seq x y) R σ w := by
  intro a ha
  refine wp_seq (wp_mono (h a ha) ?_)
  intro e a' w' hq
  cases e with
  | normal => obtain ⟨N', σ', hf, hk⟩ := hq; exact hk a' hf
  | exit i => exact hq
  | goto l => exact hq
  | ret => exact hq
  | panic c => exact hq
  | outgrown => exact hq
theorem bC {id : Nat} {c : Code} (h : CW P N c (yR id R) σ w) : CW P N (.block id c) R σ w := by
  intro a ha
  refine wp_block (wp_mono (h a ha) ?_)
  intro e a' w' hq
  cases e with
  | normal => exact hq
  | exit i =>
    obtain ⟨N', σ', hf, hk⟩ := hq
    simp only [yR] at hk
    simp only [Exit.inBlock]
    cases hb : Nat.beq i id with
    | true =>
      rw [hb] at hk
      rw [if_pos (Nat.eq_of_beq_eq_true hb)]
      exact ⟨N', σ', hf, hk⟩
    | false =>
      rw [hb] at hk
      rw [if_neg (Nat.ne_of_beq_eq_false hb)]
      exact ⟨N', σ', hf, hk⟩
  | goto l => exact hq
  | ret => exact hq
  | panic c => exact hq
  | outgrown => exact hq
theorem aL (h : R .normal N σ w) : CW P N .skip R σ w := fun _ ha => wp_skip ⟨N, σ, ha, h⟩
theorem cw_label {l : Nat} (h : R .normal N σ w) : CW P N (.label l) R σ w := fun _ ha => wp_label ⟨N, σ, ha, h⟩
theorem cJ {i : Nat} (h : R (.exit i) N σ w) : CW P N (.exit i) R σ w := fun _ ha => wp_exit ⟨N, σ, ha, h⟩
theorem aH (h : R .ret N σ w) : CW P N .ret R σ w := fun _ ha => wp_ret ⟨N, σ, ha, h⟩
theorem bA {c : Operand} {x y : Code} {p : Prop} [Decidable p] (hc : σ.ev c = some (.bool (decide p))) (ht : p → CW P N x R σ w) (hf : ¬ p → CW P N y R σ w) : CW P N (.cond c x y) R σ w := by
  intro a ha
  refine wp_cond_split (ha.agrees c _ hc) (fun h => ht (of_decide_eq_true h) a ha) (fun h => hf (of_decide_eq_false h) a ha)
theorem dW {c : Operand} {x y : Code} {b : Bool} (hc : σ.ev c = some (.bool b)) (ht : b = true → CW P N x R σ w) (hf : b = false → CW P N y R σ w) : CW P N (.cond c x y) R σ w := by
  intro a ha
  exact wp_cond_split (ha.agrees c _ hc) (fun h => ht h a ha) (fun h => hf h a ha)
theorem dB {c : Operand} {x y : Code} (hc : σ.ev c = some (.bool true)) (h : CW P N x R σ w) : CW P N (.cond c x y) R σ w :=
  fun a ha => wp_cond_true (ha.agrees c _ hc) (h a ha)
theorem cM {c : Operand} {x y : Code} (hc : σ.ev c = some (.bool false)) (h : CW P N y R σ w) : CW P N (.cond c x y) R σ w :=
  fun a ha => wp_cond_false (ha.agrees c _ hc) (h a ha)
theorem cN {c : Code} {α : Type} (x0 : α) (M : α → Env) (C : Env) (Φ : α → World → Prop) (μ : α → Nat) (hM : Sub (M x0) σ) (hC : Sub C σ) (h0 : Φ x0 w)
    (round : ∀ x w, Φ x w → CW P N c (qW (fun N' σ' w' => N' = N ∧ ∃ x', μ x' < μ x ∧ Sub (M x') σ' ∧ Sub C σ' ∧ Φ x' w') R) (M x ++ C) w) : CW P N (.loop c) R σ w := by
  intro a ha
  refine wp_loop_ghost (fun n a w => ∃ x, μ x = n ∧ Fits N (M x ++ C) a ∧ Φ x w) (μ x0) ⟨x0, rfl, Fits.app hM hC ha ha, h0⟩ ?_
  rintro n a w ⟨x, rfl, hf, hx⟩
  refine wp_mono (round x w hx a hf) ?_
  intro e a' w' hq
  cases e with
  | normal =>
    obtain ⟨N', σ', hf', rfl, x', hlt, hM', hC', hΦ⟩ := hq
    exact ⟨μ x', hlt, x', rfl, Fits.app hM' hC' hf' hf', hΦ⟩
  | exit i => exact hq
  | goto l => exact hq
  | ret => exact hq
  | panic c => exact hq
  | outgrown => exact hq
theorem aA {K : NN → Env → World → Prop} (h : K N σ w) : qW K R .normal N σ w := h
theorem aW {K : Env → World → Prop} (h : K σ w) : qW (fun N' σ' w' => N' = N ∧ K σ' w') R .normal N σ w := ⟨rfl, h⟩
theorem aO {id : Nat} (h : R .normal N σ w) : yR id R .normal N σ w := h
theorem aE {K : NN → Env → World → Prop} (h : R .ret N σ w) : qW K R .ret N σ w := h
theorem aM {id : Nat} (h : R .ret N σ w) : yR id R .ret N σ w := h
theorem bH {K : NN → Env → World → Prop} {i : Nat} (h : R (.exit i) N σ w) : qW K R (.exit i) N σ w := h
theorem cI {i : Nat} (h : R .normal N σ w) : yR i R (.exit i) N σ w := by
  show cond (Nat.beq i i) _ _
  rw [show Nat.beq i i = true from Nat.beq_refl i]
  exact h
theorem uT {i id : Nat} (hne : Nat.beq i id = false) (h : R (.exit i) N σ w) : yR id R (.exit i) N σ w := by
  show cond (Nat.beq i id) _ _
  rw [hne]
  exact h
end
section
variable {P : Program} {σ : Env} {w : World}
def Ret (Φ : Value → World → Prop) : Ending → World → Prop := fun e w' => ∃ v, e = .returned v ∧ Φ v w'
def pH (P : Program) (fn : Func) (E : Ending → World → Prop) : gX
  | .normal, N, σ, w => N.2 = [] ∧ ∀ a, Fits (a.tmps.size, a.defers) σ a → ∃ v, (results fn a.tmps).run P w = .ok v w ∧ E (.returned v) w
  | .ret, N, σ, w => N.2 = [] ∧ ∀ a, Fits (a.tmps.size, a.defers) σ a → ∃ v, (results fn a.tmps).run P w = .ok v w ∧ E (.returned v) w
  | .panic chain, N, _, w => N.2 = [] ∧ E (.panicked chain) w
  | .outgrown, _, _, w => E .outgrown w
  | .exit _, _, _, _ => False
  | .goto _, _, _, _ => False
def oV (k : Nat) : List Value → Env
  | [] => []
  | v :: r => (k, v) :: oV (k + 1) r
theorem rQ : ∀ (l : List Value) (k t : Nat) (v : Value), (oV k l).get t = some v → k ≤ t ∧ l[t - k]? = some v := by
  intro l
  induction l with
  | nil => intro k t v h; cases h
  | cons u r ih =>
    intro k t v h
    simp only [oV, Env.get] at h
    cases hb : Nat.beq k t with
    | true =>
      rw [hb] at h
      have : k = t := Nat.eq_of_beq_eq_true hb
      subst this
      simp only [cond_true, Option.some.injEq] at h
      exact ⟨Nat.le_refl _, by simp [h]⟩
    | false =>
      rw [hb] at h
      have hne : k ≠ t := Nat.ne_of_beq_eq_false hb
      obtain ⟨h1, h2⟩ := ih (k + 1) t v h
      refine ⟨by omega, ?_⟩
      rw [show t - k = (t - (k + 1)) + 1 from by omega]
      simpa using h2
theorem aT {f : FuncId} {fn : Func} {c : Code} {args : List Value} {E : Ending → World → Prop} {N : Nat}
    (hf : P.funcs[f]? = some fn) (hb : fn.body = some c) (hN : fn.ntmps = N) (hle' : Nat.ble args.length N = true)
    (h : CW P (N, []) c (pH P fn E) (oV 0 args) w) : Calls P f args.toArray w E := by
  have hle : args.length ≤ N := Nat.le_of_ble_eq_true hle'; refine calls_of_wp hf hb (wp_mono (h _ ⟨?_, rfl, ?_⟩) ?_)
  · simp [hN]; omega
  · intro t v hv
    obtain ⟨_, h2⟩ := rQ args 0 t v hv; simp only [Nat.sub_zero] at h2; have hlt : t < args.length := (List.getElem?_eq_some_iff.1 h2).1
    have h3 : args[t] = v := by rw [List.getElem?_eq_getElem hlt] at h2; exact Option.some.inj h2
    simp [Array.getElem?_append, hlt, h3]
  · intro e a' w' hq
    cases e with
    | normal => obtain ⟨N', σ', hf', hn, hk⟩ := hq; obtain ⟨v, h1, h2⟩ := hk a' (by rw [hf'.1, hf'.2.1]; exact hf'); exact ⟨hf'.2.1.trans hn, v, h1, h2⟩
    | ret => obtain ⟨N', σ', hf', hn, hk⟩ := hq; obtain ⟨v, h1, h2⟩ := hk a' (by rw [hf'.1, hf'.2.1]; exact hf'); exact ⟨hf'.2.1.trans hn, v, h1, h2⟩
    | panic ch => obtain ⟨N', σ', hf, hn, hk⟩ := hq; exact ⟨hf.2.1.trans hn, hk⟩
    | outgrown => obtain ⟨_, hk⟩ := hq; exact hk
    | exit i => obtain ⟨_, _, _, hk⟩ := hq; exact hk
    | goto l => obtain ⟨_, _, _, hk⟩ := hq; exact hk
theorem HQ {n : Nat} {fn : Func} {Φ : Value → World → Prop} (hr : fn.results = #[]) (h : Φ (.tuple #[]) w) : pH P fn (Ret Φ) .ret (n, []) σ w :=
  ⟨rfl, fun _ _ => ⟨.tuple #[], results_none hr _ _ _, _, rfl, h⟩⟩
theorem eF {n : Nat} {fn : Func} {Φ : Value → World → Prop} (hr : fn.results = #[]) (h : Φ (.tuple #[]) w) : pH P fn (Ret Φ) .normal (n, []) σ w :=
  ⟨rfl, fun _ _ => ⟨.tuple #[], results_none hr _ _ _, _, rfl, h⟩⟩
theorem ZR {n : Nat} {fn : Func} {t : Tmp} {v : Value} {Φ : Value → World → Prop} (hr : fn.results = #[.tmp t]) (hv : σ.get t = some v) (h : Φ v w) : pH P fn (Ret Φ) .ret (n, []) σ w :=
  ⟨rfl, fun a ha => ⟨v, by rw [results_tmp hr, ha.2.2 t v hv], _, rfl, h⟩⟩
theorem br1 {n : Nat} {fn : Func} {t : Tmp} {v : Value} {Φ : Value → World → Prop} (h : Φ v w) (hr : fn.results = #[.tmp t] := by rfl) (hv : σ.get t = some v := by rfl) : pH P fn (Ret Φ) .ret (n, []) σ w := ZR hr hv h
theorem cB {n : Nat} {fn : Func} {t u : Tmp} {v v' : Value} {Φ : Value → World → Prop} (hr : fn.results = #[.tmp t, .tmp u]) (hv : σ.get t = some v) (hv' : σ.get u = some v') (h : Φ (.tuple #[v, v']) w) : pH P fn (Ret Φ) .ret (n, []) σ w :=
  ⟨rfl, fun a ha => ⟨.tuple #[v, v'], by rw [results_tmp2 hr, ha.2.2 t v hv, ha.2.2 u v' hv'], _, rfl, h⟩⟩
end
structure Evo (X : List Nat) (w w' : World) : Prop where
  os : w'.os = w.os
  tape : w'.tape = w.tape
  output : w'.output = w.output
  size : w.heap.size ≤ w'.heap.size
  block : ∀ b, b < w.heap.size → b ∉ X → w'.heap[b]? = w.heap[b]?
theorem Evo.refl (X : List Nat) (w : World) : Evo X w w := ⟨rfl, rfl, rfl, Nat.le_refl _, fun _ _ _ => rfl⟩
theorem Evo.trans {X : List Nat} {a b c : World} (h : Evo X a b) (k : Evo X b c) : Evo X a c :=
  ⟨k.os.trans h.os, k.tape.trans h.tape, k.output.trans h.output, Nat.le_trans h.size k.size, fun i hi hx => (k.block i (Nat.lt_of_lt_of_le hi h.size) hx).trans (h.block i hi hx)⟩
theorem Evo.mono {X Y : List Nat} {w w' : World} (h : Evo X w w') (hxy : ∀ b, b ∈ X → b ∈ Y) : Evo Y w w' :=
  ⟨h.os, h.tape, h.output, h.size, fun b hb hy => h.block b hb (fun hx => hy (hxy b hx))⟩
theorem Evo.any {w w' : World} (h : Evo [] w w') (Y : List Nat) : Evo Y w w' := h.mono (fun _ hb => by cases hb)
theorem Evo.step {X Y : List Nat} {a b c : World} (h : Evo X a b) (k : Evo Y b c) (hy : ∀ y, y ∈ Y → y ∈ X ∨ a.heap.size ≤ y) : Evo X a c :=
  ⟨k.os.trans h.os, k.tape.trans h.tape, k.output.trans h.output, Nat.le_trans h.size k.size, fun i hi hx =>
    (k.block i (Nat.lt_of_lt_of_le hi h.size) (fun hiy => by rcases hy i hiy with h1 | h1 <;> first | exact hx h1 | omega)).trans (h.block i hi hx)⟩
theorem Evo.then {a b c : World} {X : List Nat} (h : Evo X a b) (k : Evo [] b c) : Evo X a c := h.step k (fun _ hy => by cases hy)
theorem Evo.blk {X : List Nat} {w w' : World} (h : Evo X w w') {b : Nat} {o : Obj} (hb : w.heap[b]? = some o) (hx : b ∉ X) : w'.heap[b]? = some o := by
  rw [h.block b (Array.getElem?_eq_some_iff.1 hb).1 hx]; exact hb
theorem Evo.blk0 {w w' : World} (h : Evo [] w w') {b : Nat} {o : Obj} (hb : w.heap[b]? = some o) : w'.heap[b]? = some o := h.blk hb (fun h => by cases h)
theorem Evo.cell {X : List Nat} {w w' : World} (h : Evo X w w') {a : Addr} {v : Value} (hc : w.cell? a = some v) (hx : a.block ∉ X) : w'.cell? a = some v :=
  (World.cell?_of_block (h.block a.block (World.block_lt_of_cell? w a hc) hx)).trans hc
theorem dK {w : World} {b : Nat} {o : Obj} (hb : w.heap[b]? = some o) : b < w.heap.size := (Array.getElem?_eq_some_iff.1 hb).1
theorem Evo.below {w w' : World} (h : Evo [] w w') : RowKit.Below w.heap.size w w' := ⟨h.os, h.tape, h.output, h.size, fun k hk => h.block k hk (fun h => by cases h)⟩
theorem OV (w : World) : Evo [] w { w with drawn := w.drawn + 1 } := ⟨rfl, rfl, rfl, Nat.le_refl _, fun _ _ _ => rfl⟩
theorem lP (w : World) (o : Obj) : Evo [] w (w.alloc o) := ⟨rfl, rfl, rfl, by simp, fun k hk _ => RowKit.Below.heap_alloc w o k hk⟩
theorem OU (w : World) (a : Addr) (v : Value) : Evo [a.block] w (w.setCell a v) :=
  ⟨rfl, rfl, rfl, by simp, fun k _ hx => RowKit.Below.heap_setCell _ _ _ _ (fun e => hx (by simp [e]))⟩
def iN (P : Program) (t : TypeId) : Option Bool := (P.underlying t).map fun | .struct _ | .array _ _ => true | _ => false
def eQ (P : Program) (t : TypeId) : Option Nat := (P.info? t).map (·.size)
def dA (P : Program) (s : TypeId) (i : Nat) : Option Nat :=
  match P.underlying s with
  | some (.struct fs) => match fs[i]? with
    | some f => match P.info? f.type with
      | some n => if n.size = 0 then none else some f.offset
      | none => none
    | none => none
  | _ => none
def mA (P : Program) (t : TypeId) : Option Nat :=
  match P.underlying t with
  | some (.slice e) => (P.info? e).map (·.size)
  | _ => none
def cX (P : Program) (f : FuncId) : Prop := ∃ fn, P.funcs[f]? = some fn ∧ (fn.name == "runtime.NumGoroutine") = false ∧ fn.body.isNone = false
def Ex (P : Program) (σ : Env) (o : Oper) (w : World) (r : Value) (w' : World) : Prop := ∀ ρ, MI σ ρ → (execOp ρ o).run P w = .ok (.value r) w'
def ExS (P : Program) (σ : Env) (o : Oper) (w : World) (w' : World) : Prop := ∀ ρ, MI σ ρ → (execOp ρ o).run P w = .ok .skip w'
def WL (P : Program) (N : NN) (ops : Array Oper) (R : gX) (l : List Oper) (σ : Env) (w : World) : Prop := ∀ a, Fits N σ a → wpList P ops (toQ R) l a w
section
variable {P : Program} {N : NN} {R : gX} {σ : Env} {w w' : World} {ops : Array Oper} {rest : List Oper} {d : Nat} {op : Op} {T : TypeId} {pos : String} {after : Array Edge}
theorem aF {id : Nat} {l : List Oper} (h : WL P N l.toArray R l σ w) : CW P N (.region id l.toArray false) R σ w := fun a ha => wp_region_lit (h a ha)
theorem aP (h : R .normal N σ w) : WL P N ops R [] σ w := fun _ ha => wpList_nil ⟨N, σ, ha, h⟩
theorem fH {r : Value} (hd : Nat.blt d N.1 = true) (hx : Ex P σ ⟨some d, op, T, pos, after, none⟩ w r w') (h : WL P N ops R rest ((d, r) :: σ) w') :
    WL P N ops R (⟨some d, op, T, pos, after, none⟩ :: rest) σ w := fun a ha => wpList_plain rfl fun K hK => by
  unfold Oper.wp
  rw [hx a.eval ha.agrees]
  exact hK _ _ (h _ (ha.put (of_decide_eq_true (by simpa using hd)) r))
theorem aC {r : Value} (hx : Ex P σ ⟨some d, op, T, pos, after, none⟩ w r w') (h : WL P N ops R rest ((d, r) :: σ) w') (hd : Nat.blt d N.1 = true := by rfl) : WL P N ops R (⟨some d, op, T, pos, after, none⟩ :: rest) σ w := fH hd hx h
theorem HW (hx : ExS P σ ⟨none, op, T, pos, after, none⟩ w w') (h : WL P N ops R rest σ w') :
    WL P N ops R (⟨none, op, T, pos, after, none⟩ :: rest) σ w := fun a ha => wpList_plain rfl fun K hK => by
  unfold Oper.wp
  rw [hx a.eval ha.agrees]
  exact hK _ _ (h _ ha)
theorem wl_go {dst : Option Nat} {j : Nat} {pol : Bool} {oj : Oper} {t : Nat} (hj : ops[j]? = some oj) (ht : oj.dst = some t) (hv : σ.get t = some (.bool pol)) (hN : Nat.blt t N.1 = true)
    (h : WL P N ops R (⟨dst, op, T, pos, after, none⟩ :: rest) σ w) : WL P N ops R (⟨dst, op, T, pos, after, some (j, pol)⟩ :: rest) σ w := fun a ha => by
  have h1 := h a ha
  have hg : Region.wanted (⟨dst, op, T, pos, after, some (j, pol)⟩ : Oper) (yielded ops a.tmps) = true := by
    have hs : t < a.tmps.size := by rw [ha.1]; exact of_decide_eq_true (by simpa using hN)
    have := ha.2.2 t _ hv
    simp only [Array.getD_eq_getD_getElem?, Array.getElem?_eq_getElem hs, Option.getD_some] at this
    simp [Region.wanted, yielded, hj, ht, Array.getElem?_eq_getElem hs, this]
  unfold wpList at h1 ⊢
  rw [if_pos hg]
  rw [if_pos (by simp [Region.wanted])] at h1
  exact h1
theorem wl_no {j : Nat} {pol b : Bool} {oj : Oper} {t : Nat} (hj : ops[j]? = some oj) (ht : oj.dst = some t) (hv : σ.get t = some (.bool b)) (hb : b = !pol) (hN : Nat.blt t N.1 = true) (hd : Nat.blt d N.1 = true)
    (h : WL P N ops R rest ((d, undef) :: σ) w) : WL P N ops R (⟨some d, op, T, pos, after, some (j, pol)⟩ :: rest) σ w := fun a ha => by
  have hg : Region.wanted (⟨some d, op, T, pos, after, some (j, pol)⟩ : Oper) (yielded ops a.tmps) = false := by
    have hs : t < a.tmps.size := by rw [ha.1]; exact of_decide_eq_true (by simpa using hN)
    have := ha.2.2 t _ hv
    simp only [Array.getD_eq_getD_getElem?, Array.getElem?_eq_getElem hs, Option.getD_some] at this
    subst hb
    cases pol <;> simp [Region.wanted, yielded, hj, ht, Array.getElem?_eq_getElem hs, this]
  unfold wpList
  rw [if_neg (by rw [hg]; simp)]
  exact h _ (ha.put (of_decide_eq_true (by simpa using hd)) _)
theorem bF {l : List Oper} {t : Nat} {p : Prop} [Decidable p] (hv : σ.get t = some (.bool (decide p))) (ht : p → WL P N ops R l ((t, .bool true) :: σ) w) (hf : ¬ p → WL P N ops R l ((t, .bool false) :: σ) w) : WL P N ops R l σ w := by
  intro a ha
  by_cases h : p
  · refine ht h a ⟨ha.1, ha.2.1, fun u v hu => ?_⟩
    simp only [Env.get] at hu
    cases hb : Nat.beq t u with
    | true =>
      rw [hb] at hu
      have : t = u := Nat.eq_of_beq_eq_true hb
      subst this
      simp only [cond_true, Option.some.injEq] at hu
      rw [← hu, ha.2.2 t _ hv, decide_eq_true h]
    | false => rw [hb] at hu; exact ha.2.2 u v hu
  · refine hf h a ⟨ha.1, ha.2.1, fun u v hu => ?_⟩
    simp only [Env.get] at hu
    cases hb : Nat.beq t u with
    | true =>
      rw [hb] at hu
      have : t = u := Nat.eq_of_beq_eq_true hb
      subst this
      simp only [cond_true, Option.some.injEq] at hu
      rw [← hu, ha.2.2 t _ hv, decide_eq_false h]
    | false => rw [hb] at hu; exact ha.2.2 u v hu
theorem xU {l : List Oper} {t : Nat} {b : Bool} (hv : σ.get t = some (.bool b)) (ht : b = true → WL P N ops R l ((t, .bool true) :: σ) w) (hf : b = false → WL P N ops R l ((t, .bool false) :: σ) w) : WL P N ops R l σ w := by
  have hv' : σ.get t = some (.bool (decide (b = true))) := by rw [hv]; cases b <;> rfl
  exact bF hv' ht (fun h => hf (by simpa using h))
theorem wl_call {dst : Option Nat} {f : FuncId} {xs : Array Operand} {ats : Array TypeId} {vs : List Value} {Φ : Value → World → Prop} (hgo : cX P f) (hxs : xs.toList.map σ.ev = vs.map some)
    (hc : Calls P f vs.toArray w (Ret Φ)) (hd : ∀ k, dst = some k → Nat.blt k N.1 = true)
    (h : ∀ v w', Φ v w' → WL P N ops R rest (match dst with | some k => (k, v) :: σ | none => σ) w') :
    WL P N ops R (⟨dst, .call ⟨.value (.func f), xs, ats⟩, T, pos, after, none⟩ :: rest) σ w := fun a ha => wpList_plain rfl fun K hK => by
  have hargs : xs.map a.eval = vs.toArray := by
    apply Array.ext'
    rw [Array.toList_map]
    have hag := ha.agrees
    clear hK hc h ha
    generalize xs.toList = l at *
    clear xs
    revert vs
    induction l with
    | nil => intro vs hxs; cases vs with | nil => rfl | cons _ _ => simp at hxs
    | cons x l ih =>
      intro vs hxs
      cases vs with
      | nil => simp at hxs
      | cons v vs =>
        simp only [List.map_cons, List.cons.injEq] at hxs
        simp only [List.map_cons, hag x v hxs.1]
        exact congrArg _ (ih hxs.2)
  obtain ⟨fn, hf, hn, hbd⟩ := hgo
  unfold Oper.wp
  have hrun : (execOp a.eval ⟨dst, .call ⟨.value (.func f), xs, ats⟩, T, pos, after, none⟩).run P w = .ok (.enter f vs.toArray) w := by
    have hn' : ¬ fn.name = "runtime.NumGoroutine" := by simpa using hn
    have hb' : ¬ fn.body = none := by intro hh; simp [hh] at hbd
    simp only [execOp, resolve, hargs]
    simp [Act.eval, Deferred.ofValue, invoke, callFunc, hf, hn', hb']
  rw [hrun]
  show Calls P f vs.toArray w _
  refine hc.mono ?_
  rintro e w' ⟨v, rfl, hΦ⟩
  cases dst with
  | none => exact hK _ _ (h v w' hΦ a ha)
  | some k => exact hK _ _ (h v w' hΦ _ (ha.put (of_decide_eq_true (by simpa using hd k rfl)) v))
end
section
variable {P : Program} {σ : Env} {w : World} {dst : Option Nat} {T : TypeId} {pos : String} {after : Array Edge} {g : Option (Nat × Bool)}
theorem aY {x : Operand} {v : Value} (hx : σ.ev x = some v) : Ex P σ ⟨dst, .move x, T, pos, after, g⟩ w v w := fun ρ h => by
  simp [execOp, h x v hx]
theorem dU {x : Operand} {v : Value} (hx : σ.ev x = some v) : Ex P σ ⟨dst, .assign x, T, pos, after, g⟩ w v w := fun ρ h => by
  simp [execOp, h x v hx]
theorem dX {c x y : Operand} {v : Value} (hc : σ.ev c = some (.bool true)) (hx : σ.ev x = some v) : Ex P σ ⟨dst, .pick c x y, T, pos, after, g⟩ w v w := fun ρ h => by
  simp [execOp, h c _ hc, h x v hx, asBool]
theorem eU {c x y : Operand} {v : Value} (hc : σ.ev c = some (.bool false)) (hx : σ.ev y = some v) : Ex P σ ⟨dst, .pick c x y, T, pos, after, g⟩ w v w := fun ρ h => by
  simp [execOp, h c _ hc, h y v hx, asBool]
theorem lX {x : Operand} {t : TypeId} {p : Prop} [Decidable p] (hx : σ.ev x = some (.bool (decide p))) : Ex P σ ⟨dst, .unOp .not t x, T, pos, after, g⟩ w (.bool (decide (¬ p))) w := fun ρ h => by
  simp [execOp, h x _ hx, Op.unary]
theorem fP {x : Operand} {t : TypeId} {b : Bool} (hx : σ.ev x = some (.bool b)) : Ex P σ ⟨dst, .unOp .not t x, T, pos, after, g⟩ w (.bool (!b)) w := fun ρ h => by
  simp [execOp, h x _ hx, Op.unary]
theorem rZ {bop : BinOp} {x y : Operand} {t t' : TypeId} {k : IntKind} {m n : Int} {v : Value} (hop : ∀ w : World, (Go.binOp bop t (.int k m) (.int k n)).run P w = .ok v w)
    (hx : σ.ev x = some (.int k m)) (hy : σ.ev y = some (.int k n)) : Ex P σ ⟨dst, .binOp bop t x y t', T, pos, after, g⟩ w v w := fun ρ h => by
  simp only [execOp, h x _ hx, h y _ hy]
  cases bop <;> simp [eqGuard, hop]
theorem AB {k : IntKind} {n : Int} (h : k.min ≤ n) (h' : n ≤ k.max) : k.wrap n = n := by
  cases k <;> simp only [IntKind.wrap, IntKind.min, IntKind.max, IntKind.bits, IntKind.signed] at * <;> simp at * <;> (try split) <;> omega
theorem ex_add {x y : Operand} {t t' : TypeId} {k : IntKind} {m n : Int} (hx : σ.ev x = some (.int k m)) (hy : σ.ev y = some (.int k n)) (h1 : k.min ≤ m + n) (h2 : m + n ≤ k.max) :
    Ex P σ ⟨dst, .binOp .add t x y t', T, pos, after, g⟩ w (.int k (m + n)) w := rZ (fun w => by simp [Go.binOp, Op.intArith, AB h1 h2]) hx hy
theorem TM {x y : Operand} {t t' : TypeId} {k : IntKind} {m n : Int} (hx : σ.ev x = some (.int k m)) (hy : σ.ev y = some (.int k n)) (h1 : k.min ≤ m - n) (h2 : m - n ≤ k.max) :
    Ex P σ ⟨dst, .binOp .sub t x y t', T, pos, after, g⟩ w (.int k (m - n)) w := rZ (fun w => by simp [Go.binOp, Op.intArith, AB h1 h2]) hx hy
theorem ex_mul {x y : Operand} {t t' : TypeId} {k : IntKind} {m n : Int} (hx : σ.ev x = some (.int k m)) (hy : σ.ev y = some (.int k n)) (h1 : k.min ≤ m * n) (h2 : m * n ≤ k.max) :
    Ex P σ ⟨dst, .binOp .mul t x y t', T, pos, after, g⟩ w (.int k (m * n)) w := rZ (fun w => by simp [Go.binOp, Op.intArith, AB h1 h2]) hx hy
theorem lZ {x y : Operand} {t t' : TypeId} {k : IntKind} {m n : Int} (hx : σ.ev x = some (.int k m)) (hy : σ.ev y = some (.int k n)) :
    Ex P σ ⟨dst, .binOp .eql t x y t', T, pos, after, g⟩ w (.bool (decide (m = n))) w := rZ (fun w => by simp only [Go.binOp, Op.intCmp]; simp; rw [Bool.eq_iff_iff]; simp) hx hy
theorem fJ {x y : Operand} {t t' : TypeId} {k : IntKind} {m n : Int} (hx : σ.ev x = some (.int k m)) (hy : σ.ev y = some (.int k n)) :
    Ex P σ ⟨dst, .binOp .neq t x y t', T, pos, after, g⟩ w (.bool (decide (m ≠ n))) w := rZ (fun w => by simp only [Go.binOp, Op.intCmp]; simp; rw [Bool.eq_iff_iff]; simp) hx hy
theorem cP {x y : Operand} {t t' : TypeId} {k : IntKind} {m n : Int} (hx : σ.ev x = some (.int k m)) (hy : σ.ev y = some (.int k n)) :
    Ex P σ ⟨dst, .binOp .lss t x y t', T, pos, after, g⟩ w (.bool (decide (m < n))) w := rZ (fun w => by simp [Go.binOp, Op.intCmp]) hx hy
theorem eH {x y : Operand} {t t' : TypeId} {k : IntKind} {m n : Int} (hx : σ.ev x = some (.int k m)) (hy : σ.ev y = some (.int k n)) :
    Ex P σ ⟨dst, .binOp .leq t x y t', T, pos, after, g⟩ w (.bool (decide (m ≤ n))) w := rZ (fun w => by simp [Go.binOp, Op.intCmp]) hx hy
theorem gF {x y : Operand} {t t' : TypeId} {k : IntKind} {m n : Int} (hx : σ.ev x = some (.int k m)) (hy : σ.ev y = some (.int k n)) :
    Ex P σ ⟨dst, .binOp .gtr t x y t', T, pos, after, g⟩ w (.bool (decide (n < m))) w := rZ (fun w => by simp [Go.binOp, Op.intCmp]) hx hy
theorem dV {x y : Operand} {t t' : TypeId} {k : IntKind} {m n : Int} (hx : σ.ev x = some (.int k m)) (hy : σ.ev y = some (.int k n)) :
    Ex P σ ⟨dst, .binOp .geq t x y t', T, pos, after, g⟩ w (.bool (decide (n ≤ m))) w := rZ (fun w => by simp [Go.binOp, Op.intCmp]) hx hy
theorem aK {x y : Operand} {t t' : TypeId} {m n : Int} (hx : σ.ev x = some (.int .i64 m)) (hy : σ.ev y = some (.int .i64 n)) (h1 : -9223372036854775808 ≤ m + n) (h2 : m + n ≤ 9223372036854775807) :
    Ex P σ ⟨dst, .binOp .add t x y t', T, pos, after, g⟩ w (.int .i64 (m + n)) w := ex_add hx hy h1 h2
theorem dG {x y : Operand} {t t' : TypeId} {m n : Int} (hx : σ.ev x = some (.int .i64 m)) (hy : σ.ev y = some (.int .i64 n)) (h1 : -9223372036854775808 ≤ m - n) (h2 : m - n ≤ 9223372036854775807) :
    Ex P σ ⟨dst, .binOp .sub t x y t', T, pos, after, g⟩ w (.int .i64 (m - n)) w := TM hx hy h1 h2
theorem fQ {x y : Operand} {t t' : TypeId} {m n : Int} (hx : σ.ev x = some (.int .i64 m)) (hy : σ.ev y = some (.int .i64 n)) (h1 : -9223372036854775808 ≤ m * n) (h2 : m * n ≤ 9223372036854775807) :
    Ex P σ ⟨dst, .binOp .mul t x y t', T, pos, after, g⟩ w (.int .i64 (m * n)) w := ex_mul hx hy h1 h2
theorem iX {x y : Operand} {t t' : TypeId} {m n : Int} (hx : σ.ev x = some (.int .i32 m)) (hy : σ.ev y = some (.int .i32 n)) (h1 : -2147483648 ≤ m + n) (h2 : m + n ≤ 2147483647) :
    Ex P σ ⟨dst, .binOp .add t x y t', T, pos, after, g⟩ w (.int .i32 (m + n)) w := ex_add hx hy h1 h2
theorem TL {x y : Operand} {t t' : TypeId} {m n : Int} (hx : σ.ev x = some (.int .i32 m)) (hy : σ.ev y = some (.int .i32 n)) (h1 : -2147483648 ≤ m - n) (h2 : m - n ≤ 2147483647) :
    Ex P σ ⟨dst, .binOp .sub t x y t', T, pos, after, g⟩ w (.int .i32 (m - n)) w := TM hx hy h1 h2
theorem lO {x y : Operand} {t t' : TypeId} {m n : Int} (hx : σ.ev x = some (.int .u8 m)) (hy : σ.ev y = some (.int .u8 n)) (h1 : 0 ≤ m - n) (h2 : m - n ≤ 255) :
    Ex P σ ⟨dst, .binOp .sub t x y t', T, pos, after, g⟩ w (.int .u8 (m - n)) w := TM hx hy h1 h2
theorem bD {x : Operand} {ats : Array TypeId} {t e : TypeId} {a : Option Addr} {n c : Nat} (hx : σ.ev x = some (.slice a n c)) (ht : P.underlying t = some (.slice e)) (hats : ats = #[t]) :
    Ex P σ ⟨dst, .call ⟨.builtin .len, #[x], ats⟩, T, pos, after, g⟩ w (.int .i64 n) w := fun ρ h => by
  subst hats
  simp [execOp, resolve, h x _ hx, invoke, builtin, Builtin.len_, run_underlying ht, goInt]
theorem cD {x : Operand} {ats : Array TypeId} {t : TypeId} {s : ByteArray} (hx : σ.ev x = some (.string s)) (ht : P.underlying t = some .string) (hats : ats = #[t]) :
    Ex P σ ⟨dst, .call ⟨.builtin .len, #[x], ats⟩, T, pos, after, g⟩ w (.int .i64 s.size) w := fun ρ h => by
  subst hats
  simp [execOp, resolve, h x _ hx, invoke, builtin, Builtin.len_, run_underlying ht, goInt]
theorem aG {x : Operand} {a : Addr} (hx : σ.ev x = some (.pointer (some a))) : Ex P σ ⟨dst, .nilCheck x, T, pos, after, g⟩ w (.pointer (some a)) w := fun ρ h => by
  simp [execOp, h x _ hx]
theorem aD {x : Operand} {s : TypeId} {i off b o : Nat} (hx : σ.ev x = some (.pointer (some ⟨b, o, none⟩))) (hf : dA P s i = some off) :
    Ex P σ ⟨dst, .fieldAddr s x i, T, pos, after, g⟩ w (.pointer (some ⟨b, o + off, none⟩)) w := fun ρ h => by
  simp only [dA] at hf
  split at hf <;> try cases hf
  rename_i fs hu
  split at hf <;> try cases hf
  rename_i f hfs
  split at hf <;> try cases hf
  rename_i n hn
  split at hf <;> try cases hf
  rename_i hsz
  have ha : (⟨b, o, none⟩ : Addr).add f.offset = ⟨b, o + f.offset, none⟩ := by unfold Addr.add; split <;> simp_all
  simp [execOp, h x _ hx, Instr.fieldAt, run_underlying hu, hfs, Instr.sureAddr, fieldPlace, sizeOf, typeInfo, hn, hsz, ha]
theorem bX {x i : Operand} {t : TypeId} {k : IntKind} {n sz b o len c : Nat} (hx : σ.ev x = some (.slice (some ⟨b, o, none⟩) len c)) (hi : σ.ev i = some (.int k n)) (he : mA P t = some sz) (hlt : n < len) :
    Ex P σ ⟨dst, .indexAddr t x i, T, pos, after, g⟩ w (.pointer (some ⟨b, o + n * sz, none⟩)) w := fun ρ h => by
  simp only [mA] at he
  split at he <;> try cases he
  rename_i e hu
  obtain ⟨inf, hin, hsz⟩ := Option.map_eq_some_iff.1 he
  have ha : (⟨b, o, none⟩ : Addr).add (n * sz) = ⟨b, o + n * sz, none⟩ := by unfold Addr.add; split <;> simp_all
  simp [execOp, h x _ hx, h i _ hi, Instr.indexAt, asIntOf, run_underlying hu, sizeOf, typeInfo, hin, hsz, hlt, ha]
theorem oM {t : TypeId} {b : Bool} (ht : iN P t = some b) (w : World) : (isAgg t).run P w = .ok b w := by
  obtain ⟨d, hd, hb⟩ := Option.map_eq_some_iff.1 ht
  subst hb
  cases d <;> simp [isAgg, run_underlying hd]
theorem aQ {x : Operand} {t : TypeId} {b o : Nat} {v : Value} (hx : σ.ev x = some (.pointer (some ⟨b, o, none⟩))) (ht : iN P t = some false) (hc : w.cell? ⟨b, o, none⟩ = some v) :
    Ex P σ ⟨dst, .load t x, T, pos, after, g⟩ w v w := fun ρ h => by
  simp [execOp, h x _ hx, Instr.loadAt, Instr.sureAddr, loadVar, oM ht, hc]
theorem eY {b o : Nat} {cs : Array Value} {t : TypeId} {fz : Nat × Nat} {v : Value} (hb : w.heap[b]? = some (.cells cs t fz)) (hv : cs[o]? = some v) : w.cell? ⟨b, o, none⟩ = some v := by
  simp [World.cell?, hb, hv]
def nth : List Value → Nat → Option Value
  | [], _ => none
  | a :: _, 0 => some a
  | _ :: l, n + 1 => nth l n
theorem nth_eq : ∀ (l : List Value) (n : Nat), nth l n = l[n]?
  | [], _ => by simp [nth]
  | _ :: _, 0 => by simp [nth]
  | _ :: l, n + 1 => by simp [nth, nth_eq l n]
theorem aV {b o : Nat} {cs : Array Value} {t : TypeId} {fz : Nat × Nat} {v : Value} (hb : w.heap[b]? = some (.cells cs t fz)) (hv : nth cs.toList o = some v) : w.cell? ⟨b, o, none⟩ = some v :=
  eY hb (by rw [nth_eq] at hv; simpa using hv)
theorem pP (b o : Nat) : ∀ (n i : Nat) (acc : Array Value) (vs : List Value), vs.length = n → (∀ j v, vs[j]? = some v → w.cell? ⟨b, o + (i + j), none⟩ = some v) →
    (loadCellsFrom ⟨b, o, none⟩ i n acc).run P w = .ok (acc ++ vs.toArray) w := by
  intro n
  induction n with
  | zero => intro i acc vs hl _; have : vs = [] := List.eq_nil_of_length_eq_zero hl; subst this; simp [loadCellsFrom]
  | succ n ih =>
    intro i acc vs hl hc
    cases vs with
    | nil => simp at hl
    | cons v vs =>
      have h0 := hc 0 v (by simp)
      have hadd : (⟨b, o, none⟩ : Addr).add i = ⟨b, o + (i + 0), none⟩ := by unfold Addr.add; split <;> simp_all
      have := ih (i + 1) (acc.push v) vs (by simpa using hl) (fun j u hu => by have := hc (j + 1) u (by simpa using hu); rw [show i + 1 + j = i + (j + 1) from by omega]; exact this)
      simp only [Nat.add_zero] at h0 hadd
      simp [loadCellsFrom, hadd, h0, this]
theorem cY {x : Operand} {t : TypeId} {b o n : Nat} {vs : List Value} (hx : σ.ev x = some (.pointer (some ⟨b, o, none⟩))) (ht : iN P t = some true) (hs : eQ P t = some n) (hl : vs.length = n)
    (hc : ∀ j v, vs[j]? = some v → w.cell? ⟨b, o + j, none⟩ = some v) : Ex P σ ⟨dst, .load t x, T, pos, after, g⟩ w (.agg vs.toArray) w := fun ρ h => by
  obtain ⟨inf, hin, hsz⟩ := Option.map_eq_some_iff.1 hs
  have hr := pP (P := P) (w := w) b o n 0 #[] vs hl (fun j v hv => by simpa using hc j v hv)
  simp [execOp, h x _ hx, Instr.loadAt, Instr.sureAddr, loadVar, oM ht, sizeOf, typeInfo, hin, hsz, loadCells, hr]
end
section
variable {P : Program} {σ : Env} {w : World} {dst : Option Nat} {T : TypeId} {pos : String} {after : Array Edge} {g : Option (Nat × Bool)}
end
theorem FR {P : Program} {t : TypeId} {cs : Array Value} {off : Nat} {v : Value} (w : World) (ht : iN P t = some false) (hv : cs[off]? = some v) : (part t cs off).run P w = .ok v w := by
  simp [part, oM ht, hv]
def kF (P : Program) (t : TypeId) : Option (Array Value) := ((P.info? t).bind (·.zero)).map Value.cells
theorem set_row (cs : Array Value) (o : Nat) (v : Value) (h : o < cs.size) : (cs.toList.take o ++ #[v].toList ++ cs.toList.drop (o + 1)).toArray = cs.setIfInBounds o v := by
  apply Array.toList_inj.1
  simp [List.set_eq_take_append_cons_drop, h]
theorem oR (w : World) (o : Obj) : (w.alloc o).heap[w.heap.size]? = some o := heap_alloc_new w o
theorem oT {P : Program} (b : Nat) (t : TypeId) : ∀ (vs : List Value) (o i : Nat) (cs : Array Value) (w : World), w.heap[b]? = some (.cells cs t (0, 0)) → o + i + vs.length ≤ cs.size → (∀ v, v ∈ vs → v.oneCell' = true) →
    ∃ w', (storeCells ⟨b, o, none⟩ vs i).run P w = .ok () w' ∧ w'.heap[b]? = some (.cells (cs.toList.take (o + i) ++ vs ++ cs.toList.drop (o + i + vs.length)).toArray t (0, 0)) ∧ Evo [b] w w' := by
  intro vs
  induction vs with
  | nil => intro o i cs w hb _ _; exact ⟨w, by simp [storeCells], by simpa using hb, Evo.refl _ _⟩
  | cons v vs ih =>
    intro o i cs w hb hle h1
    have hadd : (⟨b, o, none⟩ : Addr).add i = ⟨b, o + i, none⟩ := by unfold Addr.add; split <;> simp_all
    have hlt : o + i < cs.size := by simp at hle; omega
    have hc : w.cell? ⟨b, o + i, none⟩ = some cs[o + i] := eY hb (by simp [hlt])
    have hfz : w.frozen? ⟨b, o + i, none⟩ = false := by simp [World.frozen?, hb]
    have hb1 : (w.setCell ⟨b, o + i, none⟩ v).heap[b]? = some (.cells (cs.setIfInBounds (o + i) v) t (0, 0)) := by
      simp only [World.setCell, Array.getElem?_modify, if_true, hb, Option.map_some]; rfl
    obtain ⟨w', hr, hb', he⟩ := ih o (i + 1) _ _ hb1 (by simp at hle ⊢; omega) (fun u hu => h1 u (List.mem_cons_of_mem _ hu))
    refine ⟨w', ?_, ?_, (OU w ⟨b, o + i, none⟩ v).trans he⟩
    · simp [storeCells, hadd, run_store P w _ v .plain (h1 v (by simp)), hc, hfz, hr]
    · rw [hb']
      congr 3
      apply List.ext_getElem?
      intro j
      simp only [Array.toList_setIfInBounds, List.append_assoc, List.getElem?_append, List.length_take, List.length_set, Array.length_toList, List.getElem?_take, List.getElem?_drop, List.length_cons, List.getElem?_set]
      by_cases h2 : j < o + i
      · simp [h2, show j < o + (i + 1) by omega, show j < min (o + (i + 1)) cs.size by omega, show j < min (o + i) cs.size by omega, show ¬ o + i = j by omega]
      · by_cases h3 : j = o + i
        · subst h3
          simp [show o + i < o + (i + 1) by omega, show o + i < min (o + (i + 1)) cs.size by omega, show ¬ (o + i < min (o + i) cs.size) by omega, hlt, show o + i - min (o + i) cs.size = 0 by omega]
        · simp only [show ¬ j < min (o + (i + 1)) cs.size by omega, show ¬ j < min (o + i) cs.size by omega, if_false]
          rw [show min (o + (i + 1)) cs.size = o + i + 1 by omega, show min (o + i) cs.size = o + i by omega]
          obtain ⟨m, rfl⟩ : ∃ m, j = o + i + 1 + m := ⟨j - (o + i + 1), by omega⟩
          rw [show o + i + 1 + m - (o + i + 1) = m by omega, show o + i + 1 + m - (o + i) = m + 1 by omega]
          simp only [List.getElem?_cons_succ, Nat.add_lt_add_iff_right, Nat.add_sub_add_right]
          split
          · rfl
          · rename_i h4
            rw [if_neg (by omega)]
            congr 1
            omega
section
variable {P : Program} {N : NN} {R : gX} {σ : Env} {w : World} {ops : Array Oper} {rest : List Oper} {d : Nat} {T : TypeId} {pos : String} {after : Array Edge}
theorem bT {x : Operand} {t U : TypeId} {b n : Nat} {cs : Array Value} {fz : Nat × Nat} {dst : Option Nat} {g : Option (Nat × Bool)} (hx : σ.ev x = some (.pointer (some ⟨b, 0, none⟩))) (ht : iN P t = some true) (hs : eQ P t = some n)
    (hb : w.heap[b]? = some (.cells cs U fz)) (hl : cs.size = n) : Ex P σ ⟨dst, .load t x, T, pos, after, g⟩ w (.agg cs) w := by
  have := cY (P := P) (σ := σ) (w := w) (dst := dst) (T := T) (pos := pos) (after := after) (g := g) (vs := cs.toList) hx ht hs (by simpa using hl) (fun j v hv => eY hb (by simpa using hv))
  simpa using this
theorem wl_box {e : TypeId} {x : Operand} {v : Value} {cs : Array Value} (hd : Nat.blt d N.1 = true) (hx : σ.ev x = some v) (hc : v.cells = cs)
    (h : ∀ b w', w'.heap[b]? = some (.cells cs e (0, 0)) → w.heap.size = b → Evo [] w w' → WL P N ops R rest ((d, .pointer (some ⟨b, 0, none⟩)) :: σ) w') :
    WL P N ops R (⟨some d, .box e x, T, pos, after, none⟩ :: rest) σ w := by
  subst hc
  refine fH (w' := w.alloc (.cells v.cells e)) hd (fun ρ ha => ?_) (h _ _ (oR w _) rfl (lP w _))
  simp [execOp, ha x v hx, Instr.box, newVar, newRow]
theorem fT {e : TypeId} {x : Operand} {cs : Array Value} (hd : Nat.blt d N.1 = true) (hx : σ.ev x = some (.agg cs))
    (h : ∀ b w', w'.heap[b]? = some (.cells cs e (0, 0)) → w.heap.size = b → Evo [] w w' → WL P N ops R rest ((d, .pointer (some ⟨b, 0, none⟩)) :: σ) w') :
    WL P N ops R (⟨some d, .box e x, T, pos, after, none⟩ :: rest) σ w := wl_box hd hx rfl h
theorem UG {e : TypeId} {x : Operand} {v : Value} (hd : Nat.blt d N.1 = true) (hx : σ.ev x = some v) (h1 : v.oneCell' = true)
    (h : ∀ b w', w'.heap[b]? = some (.cells #[v] e (0, 0)) → w.heap.size = b → Evo [] w w' → WL P N ops R rest ((d, .pointer (some ⟨b, 0, none⟩)) :: σ) w') :
    WL P N ops R (⟨some d, .box e x, T, pos, after, none⟩ :: rest) σ w := wl_box hd hx (by cases v <;> first | rfl | cases h1) h
theorem cF {e : TypeId} {cs : Array Value} (hd : Nat.blt d N.1 = true) (hz : kF P e = some cs)
    (h : ∀ b w', w'.heap[b]? = some (.cells cs e (0, 0)) → w.heap.size = b → Evo [] w w' → WL P N ops R rest ((d, .pointer (some ⟨b, 0, none⟩)) :: σ) w') :
    WL P N ops R (⟨some d, .alloc e, T, pos, after, none⟩ :: rest) σ w := by
  obtain ⟨v, hv, rfl⟩ := Option.map_eq_some_iff.1 hz
  obtain ⟨i, hi, hz'⟩ := Option.bind_eq_some_iff.1 hv
  refine fH (w' := w.alloc (.cells v.cells e)) hd (fun ρ _ => ?_) (h _ _ (oR w _) rfl (lP w _))
  simp [execOp, Instr.alloc, zeroValue, typeInfo, hi, hz', newVar, newRow]
theorem mM {t U : TypeId} {x y : Operand} {v : Value} {b o n : Nat} {cs : Array Value} (hx : σ.ev x = some (.pointer (some ⟨b, o, none⟩))) (hy : σ.ev y = some v) (hs : eQ P t = some n) (hn : v.cells.size = n)
    (h1 : ∀ u, u ∈ v.cells.toList → u.oneCell' = true) (hb : w.heap[b]? = some (.cells cs U (0, 0))) (hle : o + n ≤ cs.size)
    (h : ∀ w', w'.heap[b]? = some (.cells (cs.toList.take o ++ v.cells.toList ++ cs.toList.drop (o + n)).toArray U (0, 0)) → Evo [b] w w' → WL P N ops R rest σ w') :
    WL P N ops R (⟨none, .store t x y, T, pos, after, none⟩ :: rest) σ w := by
  obtain ⟨i, hi, hsz⟩ := Option.map_eq_some_iff.1 hs
  obtain ⟨w', hr, hb', he⟩ := oT (P := P) b U v.cells.toList o 0 cs w hb (by simpa [hn] using hle) h1
  refine HW (w' := w') (fun ρ ha => ?_) (h w' (by simpa [hn] using hb') he)
  simp [execOp, ha x _ hx, ha y _ hy, Instr.storeAt, Instr.sureAddr, storeVar, sizeOf, typeInfo, hi, hsz, hn, hr]
theorem bE {t U : TypeId} {x y : Operand} {v : Value} {b o : Nat} {cs : Array Value} (hx : σ.ev x = some (.pointer (some ⟨b, o, none⟩))) (hy : σ.ev y = some v) (h1 : v.oneCell' = true) (hs : eQ P t = some 1)
    (hb : w.heap[b]? = some (.cells cs U (0, 0))) (hle : Nat.blt o cs.size = true)
    (h : ∀ w', w'.heap[b]? = some (.cells (cs.setIfInBounds o v) U (0, 0)) → Evo [b] w w' → WL P N ops R rest σ w') :
    WL P N ops R (⟨none, .store t x y, T, pos, after, none⟩ :: rest) σ w := by
  have hc : v.cells = #[v] := by cases v <;> first | rfl | cases h1
  have hlt : o < cs.size := of_decide_eq_true (by simpa using hle)
  refine mM hx hy hs (by simp [hc]) (by simp [hc, h1]) hb (by omega) (fun w' hb' he => h w' ?_ he)
  rw [hb', hc]
  have e := set_row cs o v hlt
  simp only at e ⊢
  rw [e]
def AllOne : List Value → Prop
  | [] => True
  | v :: r => v.oneCell' = true ∧ AllOne r
theorem AllOne.mem {l : List Value} (h : AllOne l) : ∀ u, u ∈ l → u.oneCell' = true := by
  induction l with
  | nil => intro u hu; cases hu
  | cons v l ih =>
    intro u hu
    rcases List.mem_cons.1 hu with rfl | hu
    · exact h.1
    · exact ih h.2 u hu
theorem aZ {t U : TypeId} {x y : Operand} {b n : Nat} {cs vs : Array Value} (hx : σ.ev x = some (.pointer (some ⟨b, 0, none⟩))) (hy : σ.ev y = some (.agg vs)) (hs : eQ P t = some n)
    (hb : w.heap[b]? = some (.cells cs U (0, 0))) (hn : vs.size = n) (hn' : cs.size = n) (h1 : AllOne vs.toList)
    (h : ∀ w', w'.heap[b]? = some (.cells vs U (0, 0)) → Evo [b] w w' → WL P N ops R rest σ w') :
    WL P N ops R (⟨none, .store t x y, T, pos, after, none⟩ :: rest) σ w := by
  refine mM hx hy hs hn (fun u hu => h1.mem u hu) hb (by omega) (fun w' hb' he => h w' ?_ he)
  rw [hb']
  simp only [List.take_zero, List.nil_append, Nat.zero_add]
  rw [List.drop_of_length_le (by simp; omega)]
  simp [Value.cells]
end
def CellsAt (w : World) (b o : Nat) (vs : List Value) : Prop := ∀ j v, vs[j]? = some v → w.cell? ⟨b, o + j, none⟩ = some v
theorem CellsAt.evo {X : List Nat} {w w' : World} {b o : Nat} {vs : List Value} (h : CellsAt w b o vs) (he : Evo X w w') (hb : b ∉ X) : CellsAt w' b o vs := fun j v hv => he.cell (h j v hv) hb
def intB (P : Program) (t : TypeId) : Option Bool := (P.underlying t).map fun | .int _ => true | _ => false
def Own (w : World) (e : TypeId) (sz : Nat) (v : Value) (n : Nat) (xs : List Value) (ob : Option Nat) : Prop :=
  xs.length = n * sz ∧ ((v = .slice none 0 0 ∧ n = 0 ∧ ob = none) ∨
    ∃ g cap cur, ob = some g ∧ v = .slice (some ⟨g, 0, none⟩) n cap ∧ w.heap[g]? = some (.cells cur e (0, 0)) ∧ n ≤ cap ∧ cap ≤ maxLen ∧ cur.size = cap * sz ∧ cur.toList.take (n * sz) = xs)
structure Src (P : Program) (w : World) (sz : Nat) (x : Value) (m : Nat) (news : List Value) : Prop where
  len : ∀ w2, (Builtin.lenOf x).run P w2 = .ok m w2
  cells : ∀ w2 : World, w2.heap = w.heap → (Builtin.firstCells sz m x).run P w2 = .ok news.toArray w2
  length : news.length = m * sz
  one : ∀ u, u ∈ news → u.oneCell' = true
theorem Src.slice {P : Program} {w : World} {sz b o m c : Nat} {news : List Value} (hl : news.length = m * sz) (hc : CellsAt w b o news) (h1 : ∀ u, u ∈ news → u.oneCell' = true) : Src P w sz (.slice (some ⟨b, o, none⟩) m c) m news :=
  ⟨fun _ => rfl, fun w2 h2 => run_firstCells_some (P := P) w2 sz m ⟨b, o, none⟩ m c news hl (fun j v hv => by
    have hadd : (⟨b, o, none⟩ : Addr).add j = ⟨b, o + j, none⟩ := by unfold Addr.add; split <;> simp_all
    rw [hadd, show w2.cell? ⟨b, o + j, none⟩ = w.cell? ⟨b, o + j, none⟩ from by simp [World.cell?, h2]]
    exact hc j v hv), hl, h1⟩
theorem RU {P : Program} {w : World} {t u ty e : TypeId} {i : TypeInfo} {z : Value} {sz bytes : Nat} (ht : P.underlying t = some (.slice e)) (hu : intB P u = some false) (hi : P.info? e = some i) (hz : i.zero = some z)
    (hsize : i.size = sz) (hby : i.bytes = bytes) (hb0 : 0 < bytes) (hzs : z.cells.size = sz) {v x : Value} {n m : Nat} {xs news : List Value} {ob : Option Nat} (hown : Own w e sz v n xs ob) (hsrc : Src P w sz x m news)
    (hbytes : (n + m) * bytes ≤ 140737488355328) :
    ∃ v' w' ob', (Builtin.append_ #[t, u] ty #[v, x]).run P w = .ok v' w' ∧ Own w' e sz v' (n + m) (xs ++ news) ob' ∧ Evo ob.toList w w' ∧ (ob' = ob ∨ ∃ g, ob' = some g ∧ w.heap.size ≤ g ∧ Evo [] w w') := by
  subst hsize hby
  obtain ⟨du, hdu, hdb⟩ := Option.map_eq_some_iff.1 hu
  have hmul : n + m ≤ (n + m) * i.bytes := Nat.le_mul_of_pos_right _ hb0
  have h63 : n + m ≤ 140737488355328 := Nat.le_trans hmul hbytes
  have hlen : (xs ++ news).length = (n + m) * i.size := by rw [List.length_append, hown.1, hsrc.length, Nat.add_mul]
  have hnz : ∀ k, du ≠ .int k := fun k hk => by subst hk; simp at hdb
  have grown : ∀ old, old < n + m → ∃ w', w' = w.drew.alloc (.cells (xs.toArray ++ news.toArray ++ Builtin.zeroCells z.cells (grownCap w (n + m) old e - (n + m))) e) ∧
      Own w' e i.size (.slice (some ⟨w.heap.size, 0, none⟩) (n + m) (grownCap w (n + m) old e)) (n + m) (xs ++ news) (some w.heap.size) ∧ Evo [] w w' := by
    intro old ho
    refine ⟨_, rfl, ⟨hlen, .inr ⟨w.heap.size, _, _, rfl, rfl, heap_alloc_new w.drew _, grownCap_ge w (n + m) old e, grownCap_le_maxLen w (n + m) old e (by unfold maxLen; omega), ?_, ?_⟩⟩, ⟨rfl, rfl, rfl, by simp, fun k hk _ => RowKit.Below.heap_alloc w.drew _ k hk⟩⟩
    · have hge := grownCap_ge w (n + m) old e
      simp only [Array.size_append, List.size_toArray, size_zeroCells, hzs, hown.1, hsrc.length, ← Nat.add_mul]
      congr 1
      omega
    · simp only [Array.toList_append, List.append_assoc]
      rw [← List.append_assoc, ← hlen]
      exact List.take_left
  rcases hown.2 with ⟨rfl, rfl, rfl⟩ | ⟨g, cap, cur, rfl, rfl, hg, hnc, hcm, hcs, htake⟩
  · have hx : xs = [] := List.eq_nil_of_length_eq_zero (by simpa using hown.1)
    subst hx
    by_cases hm : m = 0
    · subst hm
      have hn : news = [] := List.eq_nil_of_length_eq_zero (by simpa using hsrc.length)
      subst hn
      refine ⟨.slice none 0 0, w, none, ?_, ⟨by simp, .inl ⟨rfl, rfl, rfl⟩⟩, Evo.refl _ _, .inl rfl⟩
      have hc := hsrc.cells w rfl
      simp only [Builtin.append_, run_underlying ht, run_underlying hdu, sizeOf, typeInfo, hi, List.getElem?_toArray, List.getElem?_cons_zero, List.getElem?_cons_succ, Sem.run_bind, Sem.run_pure, Result.andThen_ok, run_program]
      simp [hi, hsrc.len, hc]
    · obtain ⟨w', hw', ho', he'⟩ := grown 0 (by omega)
      refine ⟨_, w', some w.heap.size, ?_, ho', he'.any _, .inr ⟨_, rfl, Nat.le_refl _, he'⟩⟩
      have hc := hsrc.cells w.drew rfl
      have hfit := growslice_fits (need := 0 + m) (old := 0) (by omega) hbytes
      simp only [Nat.zero_add] at hfit
      simp only [Builtin.append_, run_underlying ht, run_underlying hdu, sizeOf, typeInfo, hi, List.getElem?_toArray, List.getElem?_cons_zero, List.getElem?_cons_succ, Sem.run_bind, Sem.run_pure, Result.andThen_ok, run_program]
      simp [hi, hz, zeroValue, typeInfo, hsrc.len, hc, hm, show ¬ (9223372036854775807 < (m : Int)) by omega, show ¬ (281474976710656 < Builtin.nextslicecap m 0 * i.bytes) by omega, Question.forced, run_firstCells_none, newRow, grownCap, hw']
  · by_cases hroom : n + m ≤ cap
    · have hfit : n * i.size + 0 + news.length ≤ cur.size := by rw [hsrc.length, hcs, Nat.add_zero, ← Nat.add_mul]; exact Nat.mul_le_mul_right _ hroom
      obtain ⟨w', hr, hb', he'⟩ := oT (P := P) g e news (n * i.size) 0 cur w hg hfit hsrc.one
      refine ⟨.slice (some ⟨g, 0, none⟩) (n + m) cap, w', some g, ?_, ⟨hlen, .inr ⟨g, cap, _, rfl, rfl, hb', hroom, hcm, ?_, ?_⟩⟩, he', .inl rfl⟩
      · have hc := hsrc.cells w rfl
        have hadd : (⟨g, 0, none⟩ : Addr).add (n * i.size) = ⟨g, n * i.size, none⟩ := by unfold Addr.add; split <;> simp_all
        simp only [Builtin.append_, run_underlying ht, run_underlying hdu, sizeOf, typeInfo, hi, List.getElem?_toArray, List.getElem?_cons_zero, List.getElem?_cons_succ, Sem.run_bind, Sem.run_pure, Result.andThen_ok, run_program]
        simp [hi, hsrc.len, hc, hroom, hadd, hr]
      · simp only [List.size_toArray, List.length_append, List.length_take, List.length_drop, Array.length_toList]
        omega
      · simp only [Nat.add_zero] at htake ⊢
        rw [htake, ← hlen]
        exact List.take_left
    · obtain ⟨w', hw', ho', he'⟩ := grown cap (by omega)
      refine ⟨_, w', some w.heap.size, ?_, ho', he'.any _, .inr ⟨_, rfl, Nat.le_refl _, he'⟩⟩
      have hc := hsrc.cells w.drew rfl
      have hold := run_firstCells_some (P := P) w.drew i.size n ⟨g, 0, none⟩ n cap xs hown.1 (fun j v hv => by
        have hadd : (⟨g, 0, none⟩ : Addr).add j = ⟨g, j, none⟩ := by unfold Addr.add; split <;> simp_all
        rw [hadd]
        refine eY hg ?_
        rw [← htake, List.getElem?_take] at hv
        split at hv
        · simpa using hv
        · cases hv)
      have hfit := growslice_fits (need := n + m) (old := cap) (by omega) hbytes
      simp only [Builtin.append_, run_underlying ht, run_underlying hdu, sizeOf, typeInfo, hi, List.getElem?_toArray, List.getElem?_cons_zero, List.getElem?_cons_succ, Sem.run_bind, Sem.run_pure, Result.andThen_ok, run_program]
      simp [hi, hz, zeroValue, typeInfo, hsrc.len, hc, hold, hroom, show ¬ (9223372036854775807 < (n : Int) + (m : Int)) by omega, show ¬ (281474976710656 < Builtin.nextslicecap (n + m) cap * i.bytes) by omega, Question.forced, newRow, grownCap, hw']
      rw [← Array.append_assoc, show xs.toArray ++ news.toArray = (xs ++ news).toArray from by simp]
def OwnS (w : World) (e : TypeId) (sz : Nat) (a : Option Addr) (n c : Nat) (xs : List Value) (ob : Option Nat) : Prop := Own w e sz (.slice a n c) n xs ob
theorem OwnS.nil (w : World) (e : TypeId) (sz : Nat) : OwnS w e sz none 0 0 [] none := ⟨by simp, .inl ⟨rfl, rfl, rfl⟩⟩
theorem OwnS.lt {w : World} {e : TypeId} {sz : Nat} {a : Option Addr} {n c : Nat} {xs : List Value} {g : Nat} (h : OwnS w e sz a n c xs (some g)) : g < w.heap.size := by
  rcases h.2 with ⟨_, _, h⟩ | ⟨g', _, _, hg, _, hb, _⟩
  · cases h
  · cases hg; exact dK hb
theorem OwnS.evo {X : List Nat} {w w' : World} {e : TypeId} {sz : Nat} {a : Option Addr} {n c : Nat} {xs : List Value} {ob : Option Nat} (h : OwnS w e sz a n c xs ob) (he : Evo X w w') (hx : ∀ g, ob = some g → g ∉ X) : OwnS w' e sz a n c xs ob := by
  refine ⟨h.1, ?_⟩
  rcases h.2 with h1 | ⟨g, cap, cur, hg, hv, hb, r⟩
  · exact .inl h1
  · exact .inr ⟨g, cap, cur, hg, hv, he.blk hb (hx g hg), r⟩
theorem OwnS.evo0 {w w' : World} {e : TypeId} {sz : Nat} {a : Option Addr} {n c : Nat} {xs : List Value} {ob : Option Nat} (h : OwnS w e sz a n c xs ob) (he : Evo [] w w') : OwnS w' e sz a n c xs ob := h.evo he (fun _ _ h => by cases h)
theorem OwnS.length {w : World} {e : TypeId} {sz : Nat} {a : Option Addr} {n c : Nat} {xs : List Value} {ob : Option Nat} (h : OwnS w e sz a n c xs ob) : xs.length = n * sz := h.1
theorem OwnS.le {w : World} {e : TypeId} {sz : Nat} {a : Option Addr} {n c : Nat} {xs : List Value} {ob : Option Nat} (h : OwnS w e sz a n c xs ob) : n ≤ c := by
  rcases h.2 with ⟨h1, rfl, _⟩ | ⟨g, cap, cur, _, hv, _, hn, _⟩
  · omega
  · cases hv; exact hn
theorem OwnS.at {w : World} {e : TypeId} {sz : Nat} {a : Option Addr} {n c : Nat} {xs : List Value} {ob : Option Nat} (h : OwnS w e sz a n c xs ob) (h0 : 0 < n) : ∃ g cur, ob = some g ∧ a = some ⟨g, 0, none⟩ ∧ w.heap[g]? = some (.cells cur e (0, 0)) ∧ cur.size = c * sz ∧ cur.toList.take (n * sz) = xs := by
  rcases h.2 with ⟨_, rfl, _⟩ | ⟨g, cap, cur, hg, hv, hb, hn, hc, hs, ht⟩
  · omega
  · cases hv; exact ⟨g, cur, hg, rfl, hb, hs, ht⟩
theorem OwnS.cells {w : World} {e : TypeId} {sz : Nat} {a : Option Addr} {n c : Nat} {xs : List Value} {ob : Option Nat} (h : OwnS w e sz a n c xs ob) (h0 : 0 < n) : ∃ g, ob = some g ∧ a = some ⟨g, 0, none⟩ ∧ CellsAt w g 0 xs := by
  obtain ⟨g, cur, hg, ha, hb, _, ht⟩ := h.at h0
  refine ⟨g, hg, ha, fun j v hv => eY hb ?_⟩
  rw [← ht, List.getElem?_take] at hv
  split at hv
  · simpa using hv
  · cases hv
def AA (P : Program) (t u : TypeId) : Option (TypeId × Nat × Nat) :=
  match P.underlying t with
  | some (.slice e) => match P.info? e with
    | some i => match i.zero with
      | some z => if z.cells.size = i.size ∧ 0 < i.bytes ∧ intB P u = some false then some (e, i.size, i.bytes) else none
      | none => none
    | none => none
  | _ => none
section
variable {P : Program} {N : NN} {R : gX} {σ : Env} {w : World} {ops : Array Oper} {rest : List Oper} {d : Nat} {T : TypeId} {pos : String} {after : Array Edge}
theorem RD {s x : Operand} {t u e : TypeId} {ats : Array TypeId} {sz bytes n m c : Nat} {a : Option Addr} {vx : Value} {xs news : List Value} {ob : Option Nat} (hd : Nat.blt d N.1 = true) (hs : σ.ev s = some (.slice a n c)) (hx : σ.ev x = some vx) (hats : ats = #[t, u])
    (hf : AA P t u = some (e, sz, bytes)) (hown : OwnS w e sz a n c xs ob) (hsrc : Src P w sz vx m news) (hbytes : (n + m) * bytes ≤ 140737488355328)
    (h : ∀ a' c' w' ob', OwnS w' e sz a' (n + m) c' (xs ++ news) ob' → Evo ob.toList w w' → (ob' = ob ∨ ∃ g, ob' = some g ∧ w.heap.size ≤ g ∧ Evo [] w w') → WL P N ops R rest ((d, .slice a' (n + m) c') :: σ) w') :
    WL P N ops R (⟨some d, .call ⟨.builtin .append, #[s, x], ats⟩, T, pos, after, none⟩ :: rest) σ w := by
  subst hats
  simp only [AA] at hf
  split at hf <;> try cases hf
  rename_i e' ht
  split at hf <;> try cases hf
  rename_i i hi
  split at hf <;> try cases hf
  rename_i z hz
  split at hf <;> try cases hf
  rename_i hc
  obtain ⟨v', w', ob', hr, ho, he, hob⟩ := RU (ty := T) ht hc.2.2 hi hz rfl rfl hc.2.1 hc.1 hown hsrc hbytes
  have hv : ∃ a' c', v' = .slice a' (n + m) c' := by
    rcases ho.2 with ⟨h1, h2, _⟩ | ⟨g, cap, _, _, h1, _⟩
    · exact ⟨none, 0, by rw [h1, h2]⟩
    · exact ⟨_, _, h1⟩
  obtain ⟨a', c', rfl⟩ := hv
  refine fH (w' := w') hd (fun ρ ha => ?_) (h a' c' w' ob' ho he hob)
  simp [execOp, resolve, ha s _ hs, ha x _ hx, invoke, builtin, hr]
theorem cT {s x : Operand} {t u e : TypeId} {ats : Array TypeId} {sz bytes n m c : Nat} {a : Option Addr} {vx : Value} {xs news : List Value} {ob : Option Nat} (hd : Nat.blt d N.1 = true) (hs : σ.ev s = some (.slice a n c)) (hx : σ.ev x = some vx) (hats : ats = #[t, u])
    (hf : AA P t u = some (e, sz, bytes)) (hown : OwnS w e sz a n c xs ob) (hsrc : Src P w sz vx m news) (hbytes : (n + m) * bytes ≤ 140737488355328)
    (h : ∀ a' c' w' ob', OwnS w' e sz a' (n + m) c' (xs ++ news) ob' → Evo ob.toList w w' → (ob' = ob ∨ ∃ g, ob' = some g ∧ w.heap.size ≤ g) → WL P N ops R rest ((d, .slice a' (n + m) c') :: σ) w') :
    WL P N ops R (⟨some d, .call ⟨.builtin .append, #[s, x], ats⟩, T, pos, after, none⟩ :: rest) σ w :=
  RD hd hs hx hats hf hown hsrc hbytes fun a' c' w' ob' h1 h2 h3 => h a' c' w' ob' h1 h2 (h3.imp id fun ⟨g, k1, k2, _⟩ => ⟨g, k1, k2⟩)
theorem fill_row (sz : Nat) : ∀ (vs : List Value) (k : Nat) (pre post : List Value), (∀ v, v ∈ vs → v.cells.size = sz) → pre.length = k * sz → post.length = vs.length * sz →
    Instr.fill (fun i => some (i * sz, sz)) (pre ++ post).toArray ((vs.zipIdx k).map fun p => (p.2, p.1)) = some (pre ++ vs.flatMap (fun v => v.cells.toList)).toArray := by
  intro vs
  induction vs with
  | nil => intro k pre post _ _ hpost; have : post = [] := List.eq_nil_of_length_eq_zero (by simpa using hpost); subst this; simp [Instr.fill]
  | cons v vs ih =>
    intro k pre post hsz hpre hpost
    have hv := hsz v (by simp)
    have hpl : post.length = sz + vs.length * sz := by rw [hpost, List.length_cons, Nat.add_mul]; omega
    have key : ∀ (l : List Value) (j : Nat) (p q : List Value), p.length = k * sz + j → l.length ≤ q.length →
        (l.zipIdx j).foldl (fun (cs : Array Value) x => cs.setIfInBounds (k * sz + x.2) x.1) (p ++ q).toArray = (p ++ l ++ q.drop l.length).toArray := by
      intro l
      induction l with
      | nil => intro j p q _ _; simp
      | cons c l ihl =>
        intro j p q hp hq
        cases q with
        | nil => simp at hq
        | cons q0 q =>
          have := ihl (j + 1) (p ++ [c]) q (by simp [hp]; omega) (by simpa using hq)
          simp only [List.zipIdx_cons, List.foldl_cons, List.setIfInBounds_toArray]
          rw [show (p ++ q0 :: q).set (k * sz + j) c = p ++ [c] ++ q from by rw [← hp]; simp]
          simpa using this
    have hk := key v.cells.toList 0 pre post (by simpa using hpre) (by simp [hv]; omega)
    simp only [List.zipIdx_cons, List.map_cons, Instr.fill]
    rw [if_neg (by simp [hv, hpre, hpl])]
    rw [← Array.foldl_toList, Array.toList_zipIdx, hk]
    have h2 := ih (k + 1) (pre ++ v.cells.toList) (post.drop v.cells.toList.length) (fun u hu => hsz u (List.mem_cons_of_mem _ hu)) (by simp [hpre, hv, Nat.add_mul]) (by simp [hv, hpl])
    rw [h2]
    simp
def lS (P : Program) (t : TypeId) : Option (TypeId × Nat) :=
  match P.underlying t with
  | some (.slice e) => match P.info? e with
    | some i => match i.zero with
      | some z => if z.cells.size = i.size then some (e, i.size) else none
      | none => none
    | none => none
  | _ => none
theorem bL {t e : TypeId} {sz len : Nat} {parts : Array (Nat × Operand)} {vs : List Value} (hd : Nat.blt d N.1 = true) (hf : lS P t = some (e, sz)) (hp : parts.toList.map (fun p => (p.1, σ.ev p.2)) = vs.zipIdx.map (fun q => (q.2, some q.1)))
    (hlen : vs.length = len) (hsz : vs.all (fun v => Nat.beq v.cells.size sz) = true) (hle : Nat.ble (len * sz + len) 16777216 = true)
    (h : ∀ b w', OwnS w' e sz (some ⟨b, 0, none⟩) len len (vs.flatMap fun v => v.cells.toList) (some b) → w.heap.size = b → Evo [] w w' → WL P N ops R rest ((d, .slice (some ⟨b, 0, none⟩) len len) :: σ) w') :
    WL P N ops R (⟨some d, .buildSlice t len parts, T, pos, after, none⟩ :: rest) σ w := by
  simp only [lS] at hf
  split at hf <;> try cases hf
  rename_i e' ht
  split at hf <;> try cases hf
  rename_i i hi
  split at hf <;> try cases hf
  rename_i z hz
  split at hf <;> try cases hf
  rename_i hc
  have hvs : ∀ v, v ∈ vs → v.cells.size = i.size := fun v hv => Nat.eq_of_beq_eq_true (List.all_eq_true.1 hsz v hv)
  have hfl : (vs.flatMap fun v => v.cells.toList).length = len * i.size := by
    rw [← hlen]; clear hp hlen hsz hle h
    induction vs with
    | nil => simp
    | cons v vs ih => simp [ih (fun u hu => hvs u (List.mem_cons_of_mem _ hu)), hvs v (by simp), Nat.add_mul]; omega
  have hle' : len * i.size + len ≤ 16777216 := Nat.le_of_ble_eq_true hle
  refine fH (w' := w.alloc (.cells (vs.flatMap fun v => v.cells.toList).toArray e)) hd (fun ρ ha => ?_) (h w.heap.size _ ⟨hfl, .inr ⟨w.heap.size, len, _, rfl, rfl, heap_alloc_new w _, Nat.le_refl _, ?_, by simp [hfl], ?_⟩⟩ rfl (lP w _))
  · have hparts : (parts.map fun p => (p.1, ρ p.2)).toList = (vs.zipIdx 0).map fun p => (p.2, p.1) := by
      rw [Array.toList_map]
      clear h hlen hsz hvs hfl hle hle'
      revert hp
      generalize parts.toList = l
      generalize vs.zipIdx 0 = q
      intro hp
      induction l generalizing q with
      | nil => cases q with | nil => rfl | cons _ _ => simp at hp
      | cons p l ih =>
        cases q with
        | nil => simp at hp
        | cons x q =>
          simp only [List.map_cons, List.cons.injEq, Prod.mk.injEq] at hp ⊢
          exact ⟨⟨hp.1.1, ha _ _ hp.1.2⟩, ih q hp.2⟩
    have hfill := fill_row i.size vs 0 [] (List.map (fun j => z.cells[j % z.cells.size]!) (List.range (len * i.size))) hvs (by simp) (by simp [hlen])
    simp only [List.nil_append] at hfill
    have harr : ((Array.range (len * i.size)).map fun j => z.cells[j % z.cells.size]!) = (List.map (fun j => z.cells[j % z.cells.size]!) (List.range (len * i.size))).toArray := by
      apply Array.toList_inj.1; simp
    rw [← harr, ← hparts] at hfill
    simp only [execOp, Instr.buildSlice, run_underlying ht, sizeOf, typeInfo, hi, Sem.run_bind, Sem.run_pure, Result.andThen_ok, run_program, zeroValue]
    rw [Array.toList_map] at hfill
    by_cases h0 : len * i.size = 0
    · have hr0 : Array.range 0 = #[] := rfl
      simp only [h0, hr0, Array.map_empty] at hfill
      simp only [hi, h0, hr0, if_true, Sem.run_bind, Sem.run_pure, Result.andThen_ok, run_program, Array.map_empty, Array.toList_map]
      simp [hfill, newRow]
    · have hzz : (zeroValue e).run P w = .ok z w := by simp [zeroValue, typeInfo, hi, hz]
      simp [hi, hz, h0, newRow, show ¬ (16777216 < len * i.size) by omega, hfill]
  · unfold maxLen; omega
  · rw [← hfl]; exact List.take_length
end
section
variable {P : Program} {N : NN} {R : gX} {σ : Env} {w : World} {ops : Array Oper} {rest : List Oper} {d : Nat} {op : Op} {T : TypeId} {pos : String} {after : Array Edge}
def QL (P : Program) (N : NN) (ops : Array Oper) (w : World) (R : gX) (l : List Oper) (σ : Env) : Prop :=
  ∀ a, Fits N σ a → wpQuiet P ops (fun w' => ∃ n, w' = w.drewN n) (fun a' => ∀ w', (∃ n, w' = w.drewN n) → toQ R .normal a' w') l a
theorem HJ (w : World) (n : Nat) : Evo [] w (w.drewN n) := ⟨rfl, rfl, rfl, Nat.le_refl _, fun _ _ _ => rfl⟩
theorem eP {id : Nat} {l : List Oper} (hm : P.follows .mixedOrders = true) (hB : Region.lexB .any l.toArray = true) (h : QL P N l.toArray w R l σ) : CW P N (.region id l.toArray true) R σ w :=
  fun a ha => wp_region_quiet_lit hm hB (h a ha)
theorem eV (h : ∀ w', Evo [] w w' → R .normal N σ w') : QL P N ops w R [] σ := fun _ ha => wpQuiet_nil fun w' ⟨n, hn⟩ => ⟨N, σ, ha, h w' (hn ▸ HJ w n)⟩
theorem ql_val {r : Value} (hd : Nat.blt d N.1 = true) (hx : ∀ w', Evo [] w w' → Ex P σ ⟨some d, op, T, pos, after, none⟩ w' r w') (h : QL P N ops w R rest ((d, r) :: σ)) :
    QL P N ops w R (⟨some d, op, T, pos, after, none⟩ :: rest) σ := fun a ha => by
  refine wpQuiet_step fun K hK => ?_
  rw [if_pos (by simp [Region.wanted])]
  refine ⟨r, ?_, hK _ (h _ (ha.put (of_decide_eq_true (by simpa using hd)) r))⟩
  rintro w' ⟨n, rfl⟩
  unfold Oper.quietAt
  rw [hx _ (HJ w n) a.eval ha.agrees]
  exact ⟨rfl, rfl⟩
theorem bJ {r : Value} (hx : ∀ w', Evo [] w w' → Ex P σ ⟨some d, op, T, pos, after, none⟩ w' r w') (h : QL P N ops w R rest ((d, r) :: σ)) (hd : Nat.blt d N.1 = true := by rfl) : QL P N ops w R (⟨some d, op, T, pos, after, none⟩ :: rest) σ := ql_val hd hx h
theorem ql_go {dst : Option Nat} {j : Nat} {pol : Bool} {oj : Oper} {t : Nat} (hj : ops[j]? = some oj) (ht : oj.dst = some t) (hv : σ.get t = some (.bool pol)) (hN : Nat.blt t N.1 = true)
    (h : QL P N ops w R (⟨dst, op, T, pos, after, none⟩ :: rest) σ) : QL P N ops w R (⟨dst, op, T, pos, after, some (j, pol)⟩ :: rest) σ := fun a ha => by
  have h1 := h a ha
  have hg : Region.wanted (⟨dst, op, T, pos, after, some (j, pol)⟩ : Oper) (yielded ops a.tmps) = true := by
    have hs : t < a.tmps.size := by rw [ha.1]; exact of_decide_eq_true (by simpa using hN)
    have := ha.2.2 t _ hv
    simp only [Array.getD_eq_getD_getElem?, Array.getElem?_eq_getElem hs, Option.getD_some] at this
    simp [Region.wanted, yielded, hj, ht, Array.getElem?_eq_getElem hs, this]
  unfold wpQuiet at h1 ⊢
  rw [if_pos hg]
  rw [if_pos (by simp [Region.wanted])] at h1
  exact h1
theorem qlg {dst : Option Nat} {j : Nat} {pol : Bool} {oj : Oper} {t : Nat} (h : QL P N ops w R (⟨dst, op, T, pos, after, none⟩ :: rest) σ) (hj : ops[j]? = some oj := by rfl) (ht : oj.dst = some t := by rfl) (hv : σ.get t = some (.bool pol) := by rfl) (hN : Nat.blt t N.1 = true := by rfl) : QL P N ops w R (⟨dst, op, T, pos, after, some (j, pol)⟩ :: rest) σ := ql_go hj ht hv hN h
theorem ql_no {j : Nat} {pol b : Bool} {oj : Oper} {t : Nat} (hj : ops[j]? = some oj) (ht : oj.dst = some t) (hv : σ.get t = some (.bool b)) (hb : b = !pol) (hN : Nat.blt t N.1 = true) (hd : Nat.blt d N.1 = true)
    (h : QL P N ops w R rest ((d, undef) :: σ)) : QL P N ops w R (⟨some d, op, T, pos, after, some (j, pol)⟩ :: rest) σ := fun a ha => by
  have hg : Region.wanted (⟨some d, op, T, pos, after, some (j, pol)⟩ : Oper) (yielded ops a.tmps) = false := by
    have hs : t < a.tmps.size := by rw [ha.1]; exact of_decide_eq_true (by simpa using hN)
    have := ha.2.2 t _ hv
    simp only [Array.getD_eq_getD_getElem?, Array.getElem?_eq_getElem hs, Option.getD_some] at this
    subst hb
    cases pol <;> simp [Region.wanted, yielded, hj, ht, Array.getElem?_eq_getElem hs, this]
  unfold wpQuiet
  rw [if_neg (by rw [hg]; simp)]
  exact h _ (ha.put (of_decide_eq_true (by simpa using hd)) _)
theorem qln {j : Nat} {pol b : Bool} {oj : Oper} {t : Nat} (h : QL P N ops w R rest ((d, undef) :: σ)) (hj : ops[j]? = some oj := by rfl) (ht : oj.dst = some t := by rfl) (hv : σ.get t = some (.bool b) := by rfl) (hb : b = !pol := by rfl) (hN : Nat.blt t N.1 = true := by rfl) (hd : Nat.blt d N.1 = true := by rfl) : QL P N ops w R (⟨some d, op, T, pos, after, some (j, pol)⟩ :: rest) σ := ql_no hj ht hv hb hN hd h
theorem Fits.split {t : Nat} {b c : Bool} {a : Act} (hv : σ.get t = some (.bool b)) (he : b = c) (ha : Fits N σ a) : Fits N ((t, .bool c) :: σ) a :=
  ⟨ha.1, ha.2.1, fun u v hu => by
    simp only [Env.get] at hu
    cases hb : Nat.beq t u with
    | true =>
      rw [hb] at hu
      have : t = u := Nat.eq_of_beq_eq_true hb
      subst this
      simp only [cond_true, Option.some.injEq] at hu
      rw [← hu, ha.2.2 t _ hv, he]
    | false => rw [hb] at hu; exact ha.2.2 u v hu⟩
theorem kN {l : List Oper} {t : Nat} {p : Prop} [Decidable p] (hv : σ.get t = some (.bool (decide p))) (ht : p → QL P N ops w R l ((t, .bool true) :: σ)) (hf : ¬ p → QL P N ops w R l ((t, .bool false) :: σ)) : QL P N ops w R l σ := by
  intro a ha
  by_cases h : p
  · exact ht h a (ha.split hv (decide_eq_true h))
  · exact hf h a (ha.split hv (decide_eq_false h))
end
abbrev Rel (α : Type) := List Nat → World → List Value → α → Prop
def Rel.Pers {α : Type} (R : Rel α) : Prop := ∀ X w w' vs d, Evo X w w' → R X w vs d → R X w' vs d
def Rel.Fresh {α : Type} (R : Rel α) : Prop := ∀ X Y w vs d, (∀ y, y ∈ Y → y ∈ X ∨ w.heap.size ≤ y) → R X w vs d → R Y w vs d
def RSl {α : Type} (sz : Nat) (R : Rel α) (X : List Nat) (w : World) (v : Value) (ds : List α) : Prop :=
  ∃ a c, v = .slice a ds.length c ∧ ds.length ≤ c ∧ ∀ k (hk : k < ds.length), ∃ b o vs, a = some ⟨b, o, none⟩ ∧ b ∉ X ∧ vs.length = sz ∧ CellsAt w b (o + k * sz) vs ∧ R X w vs ds[k]
theorem RSl.evo {α : Type} {sz : Nat} {R : Rel α} (hR : R.Pers) {X : List Nat} {w w' : World} {v : Value} {ds : List α} (he : Evo X w w') (h : RSl sz R X w v ds) : RSl sz R X w' v ds := by
  obtain ⟨a, c, hv, hc, h⟩ := h
  refine ⟨a, c, hv, hc, fun k hk => ?_⟩
  obtain ⟨b, o, vs, ha, hb, hl, hcs, hr⟩ := h k hk
  exact ⟨b, o, vs, ha, hb, hl, hcs.evo he hb, hR _ _ _ _ _ he hr⟩
def RInt (k : IntKind) : Rel Int := fun _ _ vs n => vs = [.int k n] ∧ k.min ≤ n ∧ n ≤ k.max
def RStr : Rel ByteArray := fun _ _ vs s => vs = [.string s]
def RSlice {α : Type} (sz : Nat) (R : Rel α) : Rel (List α) := fun X w vs ds => ∃ v, vs = [v] ∧ RSl sz R X w v ds
theorem RStr.pers : RStr.Pers := fun _ _ _ _ _ _ h => h
theorem RSlice.pers {α : Type} {sz : Nat} {R : Rel α} (hR : R.Pers) : (RSlice sz R).Pers := fun _ _ _ _ _ he ⟨v, hv, h⟩ => ⟨v, hv, h.evo hR he⟩
def Apart (o p : Option Nat) : Prop := ∀ g, o = some g → p = some g → False
def Ge (w : World) (o : Option Nat) : Prop := ∀ g, o = some g → w.heap.size ≤ g
def Lt (w : World) (o : Option Nat) : Prop := ∀ g, o = some g → g < w.heap.size
theorem Apart.symm {o p : Option Nat} (h : Apart o p) : Apart p o := fun g h1 h2 => h g h2 h1
theorem Lt.blk {w : World} {b : Nat} {o : Obj} (h : w.heap[b]? = some o) : Lt w (some b) := fun g hg => by cases hg; exact dK h
theorem Lt.own {w : World} {e : TypeId} {sz : Nat} {a : Option Addr} {n c : Nat} {xs : List Value} {ob : Option Nat} (h : OwnS w e sz a n c xs ob) : Lt w ob := fun g hg => by subst hg; exact h.lt
theorem Apart.new {w : World} {o : Option Nat} {b : Nat} (h : Lt w o) (hs : w.heap.size = b) : Apart o (some b) := fun g h1 h2 => by have h3 := Option.some.inj h2; have := h g h1; omega
theorem Apart.fresh {w : World} {o p : Option Nat} (h : Lt w o) (hs : Ge w p) : Apart o p := fun g h1 h2 => by have := h g h1; have := hs g h2; omega
theorem Apart.nil (o : Option Nat) : Apart o Option.none := fun _ _ h => by cases h
theorem Apart.app {w : World} {o ob ob' : Option Nat} (h : Apart o ob) (hl : Lt w o) (hob : ob' = ob ∨ ∃ g, ob' = some g ∧ w.heap.size ≤ g) : Apart o ob' := fun g h1 h2 => by
  rcases hob with rfl | ⟨g', rfl, hg⟩
  · exact h g h1 h2
  · cases h2; have := hl g h1; omega
theorem Apart.nmem {b : Nat} {ob : Option Nat} (h : Apart (some b) ob) : b ∉ ob.toList := fun hm => by
  cases ob with
  | none => cases hm
  | some g => exact h g (by simp at hm; rw [hm]) rfl
theorem Apart.nmem1 {b c : Nat} (h : Apart (some b) (some c)) : b ∉ [c] := h.nmem
theorem Apart.own {o ob : Option Nat} (h : Apart o ob) : ∀ g, o = some g → g ∉ ob.toList := fun g hg => by subst hg; exact h.nmem
theorem Apart.own1 {o : Option Nat} {c : Nat} (h : Apart o (some c)) : ∀ g, o = some g → g ∉ [c] := fun g hg => by subst hg; exact h.nmem
theorem Ge.nil (w : World) : Ge w none := fun g h => by cases h
theorem Ge.new {X : List Nat} {a w : World} {b : Nat} (h : Evo X a w) (hs : w.heap.size = b) : Ge a (some b) := fun g hg => by cases hg; have := h.size; omega
theorem Ge.fresh {X : List Nat} {a w : World} {o : Option Nat} (h : Evo X a w) (hs : Ge w o) : Ge a o := fun g hg => by have := h.size; have := hs g hg; omega
theorem Ge.app {X : List Nat} {a w : World} {ob ob' : Option Nat} (h : Ge a ob) (he : Evo X a w) (hob : ob' = ob ∨ ∃ g, ob' = some g ∧ w.heap.size ≤ g) : Ge a ob' := fun g h2 => by
  rcases hob with rfl | ⟨g', rfl, hg⟩
  · exact h g h2
  · cases h2; have := he.size; omega
theorem Ge.mem {X : List Nat} {a : World} {ob : Option Nat} (h : Ge a ob) : ∀ y, y ∈ ob.toList → y ∈ X ∨ a.heap.size ≤ y := fun y hy => by
  cases ob with
  | none => cases hy
  | some g => simp at hy; subst hy; exact .inr (h _ rfl)
theorem Ge.mem1 {X : List Nat} {a : World} {b : Nat} (h : Ge a (some b)) : ∀ y, y ∈ [b] → y ∈ X ∨ a.heap.size ≤ y := h.mem
theorem Src.ofOwn {P : Program} {w : World} {e : TypeId} {sz : Nat} {a : Option Addr} {n c : Nat} {xs : List Value} {ob : Option Nat} (h : OwnS w e sz a n c xs ob) (h1 : AllOne xs) : Src P w sz (.slice a n c) n xs := by
  have h1' := h1.mem
  rcases Nat.eq_zero_or_pos n with h0 | h0
  · subst h0
    have hx : xs = [] := List.eq_nil_of_length_eq_zero (by simpa using h.1)
    subst hx
    refine ⟨fun _ => rfl, fun w2 _ => ?_, by simp, h1'⟩
    cases a with
    | none => rfl
    | some a => simp [Builtin.firstCells, loadCells, loadCellsFrom]
  · obtain ⟨g, _, rfl, hc⟩ := h.cells h0
    exact Src.slice h.1 hc h1'
theorem RSl.one {α : Type} {sz : Nat} {R : Rel α} {X : List Nat} {w : World} {v : Value} {ds : List α} (h : RSl sz R X w v ds) : v.oneCell' = true := by
  obtain ⟨_, _, rfl, _⟩ := h; rfl
theorem RSl.cell {α : Type} {sz : Nat} {R : Rel α} {X : List Nat} {w : World} {v : Value} {ds : List α} (h : RSl sz R X w v ds) : v.cells = #[v] := by
  obtain ⟨_, _, rfl, _⟩ := h; rfl
theorem RSl.src {α : Type} {P : Program} {sz : Nat} {R : Rel α} {X : List Nat} {w w' : World} {v : Value} {ds : List α} (h : RSl sz R X w v ds) (he : Evo X w w') (h1 : ∀ X w vs d, R X w vs d → ∀ u, u ∈ vs → u.oneCell' = true) :
    ∃ rows : List (List Value), rows.length = ds.length ∧ (∀ k (hk : k < ds.length) (hk' : k < rows.length), rows[k].length = sz ∧ R X w rows[k] ds[k]) ∧ Src P w' sz v ds.length rows.flatten := by
  obtain ⟨a, c, rfl, hc, h⟩ := h
  rcases Nat.eq_zero_or_pos ds.length with h0 | h0
  · refine ⟨[], by simp [h0], fun k hk => by omega, ?_⟩
    refine ⟨fun _ => rfl, fun w2 _ => ?_, by simp [h0], fun u hu => by simp at hu⟩
    rw [h0]
    cases a with
    | none => rfl
    | some a => simp [Builtin.firstCells, loadCells, loadCellsFrom]
  · obtain ⟨b, o, _, ha, hbX, _⟩ := h 0 h0
    subst ha
    have hex : ∀ n, n ≤ ds.length → ∃ rows : List (List Value), rows.length = n ∧ (∀ k (hk : k < ds.length) (hk' : k < rows.length), rows[k].length = sz ∧ CellsAt w b (o + k * sz) rows[k] ∧ R X w rows[k] ds[k]) := by
      intro n
      induction n with
      | zero => exact fun _ => ⟨[], rfl, fun k _ hk' => by simp at hk'⟩
      | succ n ih =>
        intro hn
        obtain ⟨rows, hl, hr⟩ := ih (by omega)
        obtain ⟨b', o', vs, hb, _, hlen, hcs, hR⟩ := h n (by omega)
        cases hb
        refine ⟨rows ++ [vs], by simp [hl], fun k hk hk' => ?_⟩
        by_cases hkn : k < n
        · rw [List.getElem_append_left (by omega)]
          exact hr k hk (by omega)
        · obtain rfl : k = n := by simp [hl] at hk'; omega
          rw [List.getElem_append_right (by omega)]
          simp only [hl, Nat.sub_self, List.getElem_cons_zero]
          exact ⟨hlen, hcs, hR⟩
    obtain ⟨rows, hl, hr⟩ := hex ds.length (Nat.le_refl _)
    refine ⟨rows, hl, fun k hk hk' => ⟨(hr k hk hk').1, (hr k hk hk').2.2⟩, ?_⟩
    have hcells : ∀ (rs : List (List Value)) (k : Nat), (∀ j (hj : j < rs.length), rs[j].length = sz ∧ CellsAt w b (o + (k + j) * sz) rs[j]) → CellsAt w b (o + k * sz) rs.flatten := by
      intro rs
      induction rs with
      | nil => intro k _ j v hv; simp at hv
      | cons r rs ih =>
        intro k hk j v hv
        simp only [List.flatten_cons, List.getElem?_append] at hv
        have h0 := hk 0 (by simp)
        split at hv
        · have := h0.2 j v (by simpa using hv)
          simpa using this
        · have hrs := ih (k + 1) (fun j hj => by have := hk (j + 1) (by simpa using hj); simp only [List.getElem_cons_succ] at this; rw [show k + 1 + j = k + (j + 1) by omega]; exact this) (j - r.length) v hv
          have hrl : r.length = sz := h0.1
          rw [show o + k * sz + j = o + (k + 1) * sz + (j - r.length) by rw [Nat.add_mul]; omega]
          exact hrs
    have hlen : ∀ (rs : List (List Value)), (∀ r, r ∈ rs → r.length = sz) → rs.flatten.length = rs.length * sz := by
      intro rs
      induction rs with
      | nil => intro _; simp
      | cons r rs ih => intro hk; simp [ih (fun r hr => hk r (List.mem_cons_of_mem _ hr)), hk r (by simp), Nat.add_mul]; omega
    have hall : ∀ r, r ∈ rows → r.length = sz ∧ ∀ u, u ∈ r → u.oneCell' = true := fun r hr' => by
      obtain ⟨k, hk, rfl⟩ := List.getElem_of_mem hr'
      have := hr k (by omega) hk
      exact ⟨this.1, h1 _ _ _ _ this.2.2⟩
    refine Src.slice (by rw [hlen rows (fun r h => (hall r h).1), hl]) (CellsAt.evo (w := w) (X := X) ?_ he hbX) (fun u hu => by obtain ⟨r, hr', hu'⟩ := List.mem_flatten.1 hu; exact (hall r hr').2 u hu')
    have := hcells rows 0 (fun j hj => ⟨(hr j (by omega) hj).1, by simpa using (hr j (by omega) hj).2.1⟩)
    simpa using this
theorem RSl.fresh {α : Type} {sz : Nat} {R : Rel α} (hsz : 0 < sz) (hR : R.Fresh) {X Y : List Nat} {w : World} {v : Value} {ds : List α} (hy : ∀ y, y ∈ Y → y ∈ X ∨ w.heap.size ≤ y) (h : RSl sz R X w v ds) : RSl sz R Y w v ds := by
  obtain ⟨a, c, hv, hc, h⟩ := h
  refine ⟨a, c, hv, hc, fun k hk => ?_⟩
  obtain ⟨b, o, vs, ha, hb, hl, hcs, hr⟩ := h k hk
  refine ⟨b, o, vs, ha, fun hbY => ?_, hl, hcs, hR _ _ _ _ _ hy hr⟩
  rcases hy b hbY with h1 | h1
  · exact hb h1
  · cases vs with
    | nil => simp at hl; omega
    | cons v0 vs =>
      have := World.block_lt_of_cell? w _ (hcs 0 v0 (by simp))
      simp only at this
      omega
theorem RStr.fresh : RStr.Fresh := fun _ _ _ _ _ _ h => h
def RowsOk {α : Type} (sz : Nat) (R : Rel α) (X : List Nat) (w : World) (rows : List (List Value)) (ds : List α) : Prop :=
  rows.length = ds.length ∧ ∀ k (h : k < ds.length) (h' : k < rows.length), rows[k].length = sz ∧ R X w rows[k] ds[k]
theorem RowsOk.evo {α : Type} {sz : Nat} {R : Rel α} (hR : R.Pers) {X : List Nat} {w w' : World} {rows : List (List Value)} {ds : List α} (h : RowsOk sz R X w rows ds) (he : Evo X w w') : RowsOk sz R X w' rows ds :=
  ⟨h.1, fun k hk hk' => ⟨(h.2 k hk hk').1, hR _ _ _ _ _ he (h.2 k hk hk').2⟩⟩
theorem RowsOk.fresh {α : Type} {sz : Nat} {R : Rel α} (hR : R.Fresh) {X Y : List Nat} {w : World} {rows : List (List Value)} {ds : List α} (hy : ∀ y, y ∈ Y → y ∈ X ∨ w.heap.size ≤ y) (h : RowsOk sz R X w rows ds) : RowsOk sz R Y w rows ds :=
  ⟨h.1, fun k hk hk' => ⟨(h.2 k hk hk').1, hR _ _ _ _ _ hy (h.2 k hk hk').2⟩⟩
theorem RowsOk.snoc {α : Type} {sz : Nat} {R : Rel α} {X : List Nat} {w : World} {rows : List (List Value)} {ds : List α} (h : RowsOk sz R X w rows ds) {r : List Value} {d : α} (hl : r.length = sz) (hr : R X w r d) : RowsOk sz R X w (rows ++ [r]) (ds ++ [d]) := by
  refine ⟨by simp [h.1], fun k hk hk' => ?_⟩
  by_cases e : k < rows.length
  · rw [List.getElem_append_left e, List.getElem_append_left (by rw [← h.1]; exact e)]; exact h.2 k _ _
  · have : k = rows.length := by simp at hk'; omega
    subst this
    simp [h.1, hl, hr]
theorem RowsOk.nil {α : Type} (sz : Nat) (R : Rel α) (X : List Nat) (w : World) : RowsOk sz R X w [] [] := ⟨rfl, fun k hk => by simp at hk⟩
theorem RowsOk.flen {α : Type} {sz : Nat} {R : Rel α} {X : List Nat} {w : World} {rows : List (List Value)} {ds : List α} (h : RowsOk sz R X w rows ds) : ∀ r, r ∈ rows → r.length = sz := fun r hr => by
  obtain ⟨k, hk, rfl⟩ := List.getElem_of_mem hr
  exact (h.2 k (by rw [← h.1]; exact hk) hk).1
theorem zF {sz : Nat} : ∀ {rows : List (List Value)} (_ : ∀ r, r ∈ rows → r.length = sz) {k j : Nat} (hk : k < rows.length) (_ : j < sz), rows.flatten[k * sz + j]? = rows[k][j]? := by
  intro rows
  induction rows with
  | nil => intro _ k j hk; simp at hk
  | cons r rows ih =>
    intro h k j hk hj
    have hr := h r (by simp)
    cases k with
    | zero => simp [List.getElem?_append, hr, hj]
    | succ k =>
      have := ih (fun r hr => h r (List.mem_cons_of_mem _ hr)) (k := k) (j := j) (by simpa using hk) hj
      simp only [List.flatten_cons, List.getElem?_append, hr, List.getElem_cons_succ]
      rw [if_neg (by rw [Nat.add_mul]; omega), show (k + 1) * sz + j - sz = k * sz + j by rw [Nat.add_mul]; omega, this]
theorem zE {sz : Nat} : ∀ {rows : List (List Value)} (_ : ∀ r, r ∈ rows → r.length = sz), rows.flatten.length = rows.length * sz := by
  intro rows
  induction rows with
  | nil => intro _; simp
  | cons r rows ih => intro h; simp [ih (fun r hr => h r (List.mem_cons_of_mem _ hr)), h r (by simp), Nat.add_mul]; omega
theorem OwnS.set {w w' : World} {e : TypeId} {sz : Nat} {a : Option Addr} {n c : Nat} {xs : List Value} {g : Nat} {cur : Array Value} {U : TypeId} {i : Nat} {v : Value} (h : OwnS w e sz a n c xs (some g)) (hb : w.heap[g]? = some (.cells cur U (0, 0))) (hb' : w'.heap[g]? = some (.cells (cur.setIfInBounds i v) U (0, 0))) : OwnS w' e sz a n c (xs.set i v) (some g) := by
  refine ⟨by simp [h.1], ?_⟩
  rcases h.2 with ⟨_, _, h2⟩ | ⟨g', cap, cur', hg, hv, hbb, hn, hc, hs, ht⟩
  · cases h2
  · cases hg
    rw [hb] at hbb
    cases hbb
    refine .inr ⟨g, cap, _, rfl, hv, hb', hn, hc, by simp [hs], ?_⟩
    rw [← ht]
    simp [List.take_set]
theorem OwnS.set' {w w' : World} {e : TypeId} {sz : Nat} {a : Option Addr} {n c : Nat} {xs : List Value} {ob : Option Nat} {g : Nat} {cur : Array Value} {U : TypeId} {i : Nat} {v : Value} (h : OwnS w e sz a n c xs ob) (hg : ob = some g) (hb : w.heap[g]? = some (.cells cur U (0, 0))) (hb' : w'.heap[g]? = some (.cells (cur.setIfInBounds i v) U (0, 0))) : OwnS w' e sz a n c (xs.set i v) ob := by
  subst hg; exact h.set hb hb'
theorem lF {w w' : World} {ob : Option Nat} {g : Nat} (hg : ob = some g) (h : Evo [g] w w') : Evo ob.toList w w' := by subst hg; exact h
theorem OwnS.inb {w : World} {e : TypeId} {sz : Nat} {a : Option Addr} {n c k j o : Nat} {xs : List Value} {ob : Option Nat} {cur : Array Value} (h : OwnS w e sz a n c xs ob) (hs : cur.size = c * sz) (hk : k < n) (hj : j < sz) (ho : o = k * sz + j) : o < cur.size := by
  have h1 := h.le
  have h2 : (k + 1) * sz ≤ c * sz := Nat.mul_le_mul_right _ (by omega)
  rw [hs, ho]
  rw [Nat.add_mul] at h2
  omega
theorem RSl.ofOwn {α : Type} {sz : Nat} {R : Rel α} {X : List Nat} {w : World} {e : TypeId} {a : Option Addr} {n c : Nat} {rows : List (List Value)} {ds : List α} {ob : Option Nat} (h : OwnS w e sz a n c rows.flatten ob) (hr : RowsOk sz R X w rows ds) (hn : ds.length = n) (hx : ∀ g, ob = some g → g ∉ X) :
    RSl sz R X w (.slice a n c) ds := by
  subst hn
  refine ⟨a, c, rfl, h.le, fun k hk => ?_⟩
  obtain ⟨g, hg, ha, hcs⟩ := h.cells (by omega)
  have hk' : k < rows.length := by rw [hr.1]; exact hk
  obtain ⟨h1, h2⟩ := hr.2 k hk hk'
  refine ⟨g, 0, rows[k], ha, hx g hg, h1, fun j v hv => ?_, h2⟩
  have hj : j < sz := by rw [← h1]; exact (List.getElem?_eq_some_iff.1 hv).1
  have := hcs (k * sz + j) v (by rw [zF hr.flen hk' hj]; exact hv)
  rw [show 0 + k * sz + j = 0 + (k * sz + j) by omega]
  exact this
theorem RSl.rows {α : Type} {P : Program} {sz : Nat} {R : Rel α} {X : List Nat} {w w' : World} {v : Value} {ds : List α} (h : RSl sz R X w v ds) (he : Evo X w w') (h1 : ∀ X w vs d, R X w vs d → ∀ u, u ∈ vs → u.oneCell' = true) :
    ∃ rows : List (List Value), RowsOk sz R X w rows ds ∧ Src P w' sz v ds.length rows.flatten := by
  obtain ⟨rows, hl, hr, hs⟩ := h.src (P := P) he h1
  exact ⟨rows, ⟨hl, fun k hk hk' => hr k hk hk'⟩, hs⟩
section
variable {P : Program} {N : NN} {R : gX} {σ : Env} {w : World} {ops : Array Oper} {rest : List Oper} {dst : Option Nat} {d : Nat} {op : Op} {T : TypeId} {pos : String} {after : Array Edge} {g : Option (Nat × Bool)}
theorem eW {x i : Operand} {t : TypeId} {k : IntKind} {z : Int} {n sz b o len c : Nat} (hx : σ.ev x = some (.slice (some ⟨b, o, none⟩) len c)) (hi : σ.ev i = some (.int k z)) (hz : z = n) (he : mA P t = some sz) (hlt : n < len) :
    Ex P σ ⟨dst, .indexAddr t x i, T, pos, after, g⟩ w (.pointer (some ⟨b, o + n * sz, none⟩)) w := bX hx (by rw [hi, hz]) he hlt
theorem tJ {t : TypeId} (a b : Bool) (w : World) (ht : P.underlying t = some .bool) : (Op.equal t (.bool a) (.bool b)).run P w = .ok (a == b) w := run_equalIn_bool w 9999 t a b ht
theorem CY {x y : Operand} {t t' : TypeId} {a b : Bool} (hx : σ.ev x = some (.bool a)) (hy : σ.ev y = some (.bool b)) (ht : P.underlying t = some .bool) : Ex P σ ⟨dst, .binOp .eql t x y t', T, pos, after, g⟩ w (.bool (a == b)) w := fun ρ h => by
  have := tJ (P := P) a b w ht
  simp [execOp, h x _ hx, h y _ hy, eqGuard, Go.binOp, this]
theorem AQ {x y : Operand} {t t' : TypeId} {a b : Bool} (hx : σ.ev x = some (.bool a)) (hy : σ.ev y = some (.bool b)) (ht : P.underlying t = some .bool) : Ex P σ ⟨dst, .binOp .neq t x y t', T, pos, after, g⟩ w (.bool (!(a == b))) w := fun ρ h => by
  have := tJ (P := P) a b w ht
  simp [execOp, h x _ hx, h y _ hy, eqGuard, Go.binOp, this]
theorem rL {j : Nat} {pol : Bool} {oj : Oper} {t : Nat} {a : Act} (hj : ops[j]? = some oj) (ht : oj.dst = some t) (hv : σ.get t = some undef) (ha : Fits N σ a) (hN : Nat.blt t N.1 = true) :
    Region.wanted (⟨dst, op, T, pos, after, some (j, pol)⟩ : Oper) (yielded ops a.tmps) = false := by
  have hs : t < a.tmps.size := by rw [ha.1]; exact of_decide_eq_true (by simpa using hN)
  have := ha.2.2 t _ hv
  simp only [Array.getD_eq_getD_getElem?, Array.getElem?_eq_getElem hs, Option.getD_some] at this
  simp [Region.wanted, yielded, hj, ht, Array.getElem?_eq_getElem hs, this, undef]
theorem wl_nou {j : Nat} {pol : Bool} {oj : Oper} {t : Nat} (hj : ops[j]? = some oj) (ht : oj.dst = some t) (hv : σ.get t = some undef) (hN : Nat.blt t N.1 = true) (hd : Nat.blt d N.1 = true)
    (h : WL P N ops R rest ((d, undef) :: σ) w) : WL P N ops R (⟨some d, op, T, pos, after, some (j, pol)⟩ :: rest) σ w := fun a ha => by
  unfold wpList
  rw [if_neg (by rw [rL hj ht hv ha hN]; simp)]
  exact h _ (ha.put (of_decide_eq_true (by simpa using hd)) _)
theorem fI {j : Nat} {pol : Bool} {oj : Oper} {t : Nat} (hj : ops[j]? = some oj) (ht : oj.dst = some t) (hv : σ.get t = some undef) (hN : Nat.blt t N.1 = true) (hd : Nat.blt d N.1 = true)
    (h : QL P N ops w R rest ((d, undef) :: σ)) : QL P N ops w R (⟨some d, op, T, pos, after, some (j, pol)⟩ :: rest) σ := fun a ha => by
  unfold wpQuiet
  rw [if_neg (by rw [rL hj ht hv ha hN]; simp)]
  exact h _ (ha.put (of_decide_eq_true (by simpa using hd)) _)
end
section
variable {P : Program} {σ : Env} {w : World} {dst : Option Nat} {T : TypeId} {pos : String} {after : Array Edge} {g : Option (Nat × Bool)}
theorem toList_inj {a b : ByteArray} (h : a.toList = b.toList) : a = b := by
  rw [ByteArray.toList_eq, ByteArray.toList_eq] at h
  obtain ⟨⟨x⟩⟩ := a
  obtain ⟨⟨y⟩⟩ := b
  simp at h
  subst h
  rfl
theorem vB (a b : ByteArray) : (a.toList == b.toList) = decide (a = b) := by
  by_cases h : a = b
  · subst h; simp
  · rw [decide_eq_false h]
    exact beq_eq_false_iff_ne.2 (fun h2 => h (toList_inj h2))
theorem gK {x y : Operand} {t t' : TypeId} {a b : ByteArray} (hx : σ.ev x = some (.string a)) (hy : σ.ev y = some (.string b)) : Ex P σ ⟨dst, .binOp .eql t x y t', T, pos, after, g⟩ w (.bool (decide (a = b))) w := fun ρ h => by
  simp [execOp, h x _ hx, h y _ hy, eqGuard, Go.binOp, Op.stringOp, vB]
theorem JJ {x y : Operand} {t t' : TypeId} {a b : ByteArray} (hx : σ.ev x = some (.string a)) (hy : σ.ev y = some (.string b)) : Ex P σ ⟨dst, .binOp .neq t x y t', T, pos, after, g⟩ w (.bool (decide (¬ a = b))) w := fun ρ h => by
  simp [execOp, h x _ hx, h y _ hy, eqGuard, Go.binOp, Op.stringOp, vB]
end
def zD (md : Region.Mode) (ops : Array Oper) (j : Nat) : Bool :=
  (List.range ops.size).all fun k => k == j || match ops[j]? with
    | some oj => oj.after.any fun e => Region.binds md e && e.on == k
    | none => false
def UD (P : Program) (md : Region.Mode) (ops : Array Oper) (Q : Exit → Act → World → Prop) (S : World → Prop) : Nat → Array Bool → Act → World → Prop
  | 0, listed, a, w => Region.ready md ops listed = [] ∧ Q .normal a w
  | fuel + 1, listed, a, w => (Region.ready md ops listed = [] → Q .normal a w) ∧
    ∀ i ∈ Region.ready md ops listed, wpOp P ops Q i (fun a' w' => (S w' ∨ zD md ops i = true) ∧ UD P md ops Q S fuel (listed.setIfInBounds i true) a' w') a w
section
variable {P : Program} {ops : Array Oper} {Q : Exit → Act → World → Prop} {md : Region.Mode} {S : World → Prop}
theorem PY : ∀ (fuel : Nat) (listed : Array Bool) (a : Act) (w : World), UD P md ops Q S fuel listed a w → wpAny P md ops Q fuel listed a w
  | 0, _, _, _, h => h
  | fuel + 1, _, _, _, h => ⟨h.1, fun i hi => wpOp_mono (fun a' w' h' => PY fuel _ a' w' h'.2) (h.2 i hi)⟩
theorem sA {i : Nat} {oi : Oper} {v : Value} (hi : ops[i]? = some oi) (hsel : ∀ (j : Nat) (o : Oper) cs b, ops[j]? = some o → o.op ≠ .select cs b)
    (hQ : ∀ c a w, Q (.panic c) (a.put oi.dst v) w → Q (.panic c) a w) :
    ∀ (fuel : Nat) (listed : Array Bool) (a : Act) (w : World),
      (∀ j oj, ops[j]? = some oj → j ≠ i → listed.getD j true = false → (∀ e ∈ oj.after, Region.binds md e = true → e.on ≠ i) → oi.apart ops oj = true) →
      i ∈ Region.ready md ops listed → YieldsIf P ops S oi v a → S w →
      UD P md ops Q S fuel (listed.setIfInBounds i true) (a.put oi.dst v) w → UD P md ops Q S (fuel + 1) listed a w := by
  intro fuel
  induction fuel with
  | zero =>
    intro listed a w _ hr hy hS H
    refine ⟨fun h => (by rw [h] at hr; cases hr), fun j hj => ?_⟩
    by_cases hji : j = i
    · subst hji; exact hy.wpOp hi hS ⟨.inl hS, H⟩
    · have := ready_mono hj hji
      rw [H.1] at this
      cases this
  | succ fuel ih =>
    intro listed a w hfree hr hy hS H
    refine ⟨fun h => (by rw [h] at hr; cases hr), fun j hj => ?_⟩
    by_cases hji : j = i
    · subst hji; exact hy.wpOp hi hS ⟨.inl hS, H⟩
    · have h1 := H.2 j (ready_mono hj hji)
      obtain ⟨hjun, oj, hoj, hall⟩ := mem_ready.1 hj
      have hnot : ∀ e ∈ oj.after, Region.binds md e = true → e.on ≠ i := fun e he hb heq => by
        have h1 := hall e he hb
        have h0 := (mem_ready.1 hr).1
        rw [heq] at h1
        rcases Nat.lt_or_ge i listed.size with h' | h'
        · simp [h'] at h0 h1; rw [h0] at h1; cases h1
        · simp [Array.getElem?_eq_none h'] at h1
      have hlast : zD md ops j ≠ true := fun hl => by
        have hlt : i < ops.size := (Array.getElem?_eq_some_iff.1 hi).1
        have h2 := List.all_eq_true.1 hl i (List.mem_range.2 hlt)
        rw [hoj] at h2
        simp only [Bool.or_eq_true, beq_iff_eq] at h2
        rcases h2 with h2 | h2
        · exact hji h2.symm
        · obtain ⟨e, he, hb⟩ := Array.any_eq_true'.1 h2
          simp only [Bool.and_eq_true, beq_iff_eq] at hb
          exact hnot e he hb.1 hb.2
      have h2 := wpOp_putIf hoj (hfree j oj hoj hji hjun hnot) (fun cs b => hsel i oi cs b hi) (fun cs b => hsel j oj cs b hoj) hQ hy h1
      have hfree' : ∀ k ok, ops[k]? = some ok → k ≠ i → (listed.setIfInBounds j true).getD k true = false →
          (∀ e ∈ ok.after, Region.binds md e = true → e.on ≠ i) → oi.apart ops ok = true := fun k ok hk hki hun hno => by
        refine hfree k ok hk hki ?_ hno
        by_cases hjk : j = k
        · subst hjk; exact hjun
        · rw [getD_set_ne true hjk] at hun; exact hun
      refine wpOp_mono (fun a' w' h3 => ?_) h2
      have hS' : S w' := h3.2.1.resolve_right hlast
      refine ⟨.inl hS', ih (listed.setIfInBounds j true) a' w' hfree' (ready_mono hr (Ne.symm hji)) h3.1 hS' ?_⟩
      rw [Array.setIfInBounds_comm _ _ hji]
      exact h3.2.2
end
def agn (R : gX) : gX
  | .panic c, N, _, w => R (.panic c) N [] w
  | .normal, N, σ, w => R .normal N σ w
  | .exit i, N, σ, w => R (.exit i) N σ w
  | .goto l, N, σ, w => R (.goto l) N σ w
  | .ret, N, σ, w => R .ret N σ w
  | .outgrown, N, σ, w => R .outgrown N σ w
theorem YV {N : NN} {σ : Env} {a : Act} (h : Fits N σ a) : Fits N [] a := ⟨h.1, h.2.1, fun t v h => by cases h⟩
theorem toQ_agn {R : gX} : ∀ e a w, toQ (agn R) e a w → toQ R e a w := fun e a w h => by
  cases e with
  | panic c => obtain ⟨N, σ, hf, h⟩ := h; exact ⟨N, [], YV hf, h⟩
  | normal => exact h
  | exit i => exact h
  | goto l => exact h
  | ret => exact h
  | outgrown => exact h
def AE (P : Program) (N : NN) (ops : Array Oper) (R : gX) (S : World → Prop) (fuel : Nat) (listed : Array Bool) (σ : Env) (w : World) : Prop :=
  ∀ a, Fits N σ a → UD P .any ops (toQ (agn R)) S fuel listed a w
def AStep (P : Program) (N : NN) (ops : Array Oper) (R : gX) (S : World → Prop) (fuel : Nat) (listed : Array Bool) (σ : Env) (w : World) (i : Nat) : Prop :=
  ∀ a, Fits N σ a → wpOp P ops (toQ (agn R)) i (fun a' w' => (S w' ∨ zD .any ops i = true) ∧ UD P .any ops (toQ (agn R)) S fuel (listed.setIfInBounds i true) a' w') a w
def AAll (p : Nat → Prop) : List Nat → Prop
  | [] => True
  | i :: r => p i ∧ AAll p r
section
variable {P : Program} {N : NN} {R : gX} {σ : Env} {w : World} {ops : Array Oper} {S : World → Prop} {fuel : Nat} {listed : Array Bool} {d : Nat} {op : Op} {T : TypeId} {pos : String} {after : Array Edge}
theorem eX {id : Nat} {l : List Oper} (S : World → World → Prop) (hm : P.follows .mixedOrders = true)
    (h : ∀ w1, Evo [] w w1 → AE P N l.toArray R (S w1) l.toArray.size (Array.replicate l.toArray.size false) σ w1) : CW P N (.region id l.toArray true) R σ w :=
  fun a ha => wp_mono (wp_region_any hm (PY _ _ _ _ (h _ (OV w) a ha))) toQ_agn
theorem AC {R : gX} {dst : Option Nat} {v : Value} : ∀ c a w, toQ (agn R) (.panic c) (a.put dst v) w → toQ (agn R) (.panic c) a w := by
  rintro c a w ⟨N, σ, hf, h⟩
  refine ⟨N, [], ⟨?_, ?_, fun t v h => by cases h⟩, h⟩
  · rw [← hf.1]; cases dst <;> simp [Act.put]
  · rw [← hf.2.1]; cases dst <;> rfl
theorem AV (i : Nat) {r : Value} (hi : ops[i]? = some ⟨some d, op, T, pos, after, none⟩) (hs : Region.noSelect ops = true) (hf : Region.free .any ops listed i = true) (hr : (Region.ready .any ops listed).contains i = true)
    (hd : Nat.blt d N.1 = true) (hx : ∀ w', S w' → Ex P σ ⟨some d, op, T, pos, after, none⟩ w' r w') (hS : S w) (h : AE P N ops R S fuel (listed.setIfInBounds i true) ((d, r) :: σ) w) : AE P N ops R S (fuel + 1) listed σ w := fun a ha =>
  sA hi (Region.noSelect_spec hs) (fun c a w => AC c a w) fuel listed a w (Region.free_spec hi hf) (by simpa using hr)
    (.inl ⟨by simp [Region.wanted], fun w' hw' => hx w' hw' a.eval ha.agrees⟩) hS (h _ (ha.put (of_decide_eq_true (by simpa using hd)) r))
theorem aet (i : Nat) {r : Value} (hi : ops[i]? = some ⟨some d, op, T, pos, after, none⟩) (hx : ∀ w', S w' → Ex P σ ⟨some d, op, T, pos, after, none⟩ w' r w') (hS : S w) (h : AE P N ops R S fuel (listed.setIfInBounds i true) ((d, r) :: σ) w) (hs : Region.noSelect ops = true := by kernel_rfl) (hf : Region.free .any ops listed i = true := by kernel_rfl) (hr : (Region.ready .any ops listed).contains i = true := by kernel_rfl) (hd : Nat.blt d N.1 = true := by rfl) : AE P N ops R S (fuel + 1) listed σ w := AV i hi hs hf hr hd hx hS h
theorem fG (i : Nat) {j : Nat} {pol : Bool} {oj : Oper} {t : Nat} {r : Value} (hj : ops[j]? = some oj) (ht : oj.dst = some t) (hv : σ.get t = some (.bool pol)) (hN : Nat.blt t N.1 = true)
    (hi : ops[i]? = some ⟨some d, op, T, pos, after, some (j, pol)⟩) (hs : Region.noSelect ops = true) (hf : Region.free .any ops listed i = true) (hr : (Region.ready .any ops listed).contains i = true)
    (hd : Nat.blt d N.1 = true) (hx : ∀ w', S w' → Ex P σ ⟨some d, op, T, pos, after, some (j, pol)⟩ w' r w') (hS : S w) (h : AE P N ops R S fuel (listed.setIfInBounds i true) ((d, r) :: σ) w) : AE P N ops R S (fuel + 1) listed σ w := fun a ha => by
  have hg : Region.wanted (⟨some d, op, T, pos, after, some (j, pol)⟩ : Oper) (yielded ops a.tmps) = true := by
    have hs : t < a.tmps.size := by rw [ha.1]; exact of_decide_eq_true (by simpa using hN)
    have := ha.2.2 t _ hv
    simp only [Array.getD_eq_getD_getElem?, Array.getElem?_eq_getElem hs, Option.getD_some] at this
    simp [Region.wanted, yielded, hj, ht, Array.getElem?_eq_getElem hs, this]
  exact sA hi (Region.noSelect_spec hs) (fun c a w => AC c a w) fuel listed a w (Region.free_spec hi hf) (by simpa using hr)
    (.inl ⟨hg, fun w' hw' => hx w' hw' a.eval ha.agrees⟩) hS (h _ (ha.put (of_decide_eq_true (by simpa using hd)) r))
theorem ae_takeN (i : Nat) {j : Nat} {pol b : Bool} {oj : Oper} {t : Nat} (hj : ops[j]? = some oj) (ht : oj.dst = some t) (hv : σ.get t = some (.bool b)) (hb : b = !pol) (hN : Nat.blt t N.1 = true)
    (hi : ops[i]? = some ⟨some d, op, T, pos, after, some (j, pol)⟩) (hs : Region.noSelect ops = true) (hf : Region.free .any ops listed i = true) (hr : (Region.ready .any ops listed).contains i = true)
    (hd : Nat.blt d N.1 = true) (hS : S w) (h : AE P N ops R S fuel (listed.setIfInBounds i true) ((d, undef) :: σ) w) : AE P N ops R S (fuel + 1) listed σ w := fun a ha => by
  have hg : Region.wanted (⟨some d, op, T, pos, after, some (j, pol)⟩ : Oper) (yielded ops a.tmps) = false := by
    have hs : t < a.tmps.size := by rw [ha.1]; exact of_decide_eq_true (by simpa using hN)
    have := ha.2.2 t _ hv
    simp only [Array.getD_eq_getD_getElem?, Array.getElem?_eq_getElem hs, Option.getD_some] at this
    subst hb
    cases pol <;> simp [Region.wanted, yielded, hj, ht, Array.getElem?_eq_getElem hs, this]
  exact sA hi (Region.noSelect_spec hs) (fun c a w => AC c a w) fuel listed a w (Region.free_spec hi hf) (by simpa using hr)
    (.inr ⟨hg, rfl⟩) hS (h _ (ha.put (of_decide_eq_true (by simpa using hd)) _))
theorem lQ (i : Nat) {j : Nat} {pol b : Bool} {oj : Oper} {t : Nat} (hi : ops[i]? = some ⟨some d, op, T, pos, after, some (j, pol)⟩) (hS : S w) (h : AE P N ops R S fuel (listed.setIfInBounds i true) ((d, undef) :: σ) w) (hj : ops[j]? = some oj := by rfl) (ht : oj.dst = some t := by rfl) (hv : σ.get t = some (.bool b) := by rfl) (hb : b = !pol := by rfl) (hN : Nat.blt t N.1 = true := by rfl) (hs : Region.noSelect ops = true := by kernel_rfl) (hf : Region.free .any ops listed i = true := by kernel_rfl) (hr : (Region.ready .any ops listed).contains i = true := by kernel_rfl) (hd : Nat.blt d N.1 = true := by rfl) : AE P N ops R S (fuel + 1) listed σ w := ae_takeN i hj ht hv hb hN hi hs hf hr hd hS h
theorem dQ (i : Nat) {j : Nat} {pol : Bool} {oj : Oper} {t : Nat} (hj : ops[j]? = some oj) (ht : oj.dst = some t) (hv : σ.get t = some undef) (hN : Nat.blt t N.1 = true)
    (hi : ops[i]? = some ⟨some d, op, T, pos, after, some (j, pol)⟩) (hs : Region.noSelect ops = true) (hf : Region.free .any ops listed i = true) (hr : (Region.ready .any ops listed).contains i = true)
    (hd : Nat.blt d N.1 = true) (hS : S w) (h : AE P N ops R S fuel (listed.setIfInBounds i true) ((d, undef) :: σ) w) : AE P N ops R S (fuel + 1) listed σ w := fun a ha =>
  sA hi (Region.noSelect_spec hs) (fun c a w => AC c a w) fuel listed a w (Region.free_spec hi hf) (by simpa using hr)
    (.inr ⟨rL hj ht hv ha hN, rfl⟩) hS (h _ (ha.put (of_decide_eq_true (by simpa using hd)) _))
theorem bS (rs : List Nat) (hr : Region.ready .any ops listed = rs) (hne : rs.isEmpty = false) (h : AAll (AStep P N ops R S fuel listed σ w) rs) : AE P N ops R S (fuel + 1) listed σ w := fun a ha => by
  refine ⟨fun h0 => ?_, ?_⟩
  · rw [hr] at h0; subst h0; cases hne
  · rw [hr]
    clear hr hne
    induction rs with
    | nil => intro i hi; cases hi
    | cons j rs ih =>
      intro i hi
      rcases List.mem_cons.1 hi with rfl | hi
      · exact h.1 a ha
      · exact ih h.2 i hi
theorem bY {i : Nat} {o : Oper} (hi : ops[i]? = some o) (h : WL P N ops (qW (fun N' σ' w' => N' = N ∧ (S w' ∨ zD .any ops i = true) ∧ AE P N ops R S fuel (listed.setIfInBounds i true) σ' w') (agn R)) [o] σ w) : AStep P N ops R S fuel listed σ w i := fun a ha => by
  have h1 := h a ha
  unfold wpList at h1
  unfold wpOp
  simp only [hi]
  have conv : ∀ a' w', toQ (qW (fun N' σ' w' => N' = N ∧ (S w' ∨ zD .any ops i = true) ∧ AE P N ops R S fuel (listed.setIfInBounds i true) σ' w') (agn R)) .normal a' w' →
      (S w' ∨ zD .any ops i = true) ∧ UD P .any ops (toQ (agn R)) S fuel (listed.setIfInBounds i true) a' w' := by
    rintro a' w' ⟨N', σ', hf, rfl, hs, hae⟩
    exact ⟨hs, hae a' hf⟩
  split
  · rename_i hw
    rw [if_pos hw] at h1
    rcases h1 with h1 | ⟨h1, a0, w0, h2⟩
    · refine .inl ?_
      unfold Oper.wp at h1 ⊢
      generalize (execOp a.eval o).run P w = r at *
      cases r with
      | ok n w' =>
        cases n <;> simp only [Oper.upon] at h1 ⊢
        case value u => exact conv _ _ (by simpa [wpList] using h1)
        case skip => exact conv _ _ (by simpa [wpList] using h1)
        case defer d => exact conv _ _ (by simpa [wpList] using h1)
        case enter f args =>
          refine h1.mono fun e w'' he => ?_
          cases e with
          | returned u => exact conv _ _ (by simpa [wpList] using he)
          | panicked c => exact he
          | outgrown => obtain ⟨a0, w0, h2⟩ := he; exact ⟨a0, w0, h2⟩
        case row row args => exact h1.mono fun u w'' he => conv _ _ (by simpa [wpList] using he)
      | halt x w' =>
        cases x <;> simp only [Oper.upon] at h1 ⊢
        case panic u => exact h1
    · exact .inr ⟨h1, a0, w0, h2⟩
  · rename_i hw
    rw [if_neg hw] at h1
    exact conv _ _ (by simpa [wpList] using h1)
theorem DU {t : Nat} {p : Prop} [Decidable p] (hv : σ.get t = some (.bool (decide p))) (ht : p → AE P N ops R S fuel listed ((t, .bool true) :: σ) w) (hf : ¬ p → AE P N ops R S fuel listed ((t, .bool false) :: σ) w) : AE P N ops R S fuel listed σ w := by
  intro a ha
  by_cases h : p
  · exact ht h a (ha.split hv (decide_eq_true h))
  · exact hf h a (ha.split hv (decide_eq_false h))
theorem ZS {t : Nat} {b : Bool} (hv : σ.get t = some (.bool b)) (ht : b = true → AE P N ops R S fuel listed ((t, .bool true) :: σ) w) (hf : b = false → AE P N ops R S fuel listed ((t, .bool false) :: σ) w) : AE P N ops R S fuel listed σ w := by
  intro a ha
  cases b with
  | true => exact ht rfl a (ha.split hv rfl)
  | false => exact hf rfl a (ha.split hv rfl)
theorem bN {i : Nat} {w : World} (hS : S w ∨ zD .any ops i = true) (h : AE P N ops R S fuel (listed.setIfInBounds i true) σ w) :
    qW (fun N' σ' w' => N' = N ∧ (S w' ∨ zD .any ops i = true) ∧ AE P N ops R S fuel (listed.setIfInBounds i true) σ' w') R .normal N σ w := ⟨rfl, hS, h⟩
theorem cV (hr : Region.ready .any ops listed = []) (h : R .normal N σ w) : AE P N ops R S fuel listed σ w := fun a ha => by
  cases fuel with
  | zero => exact ⟨hr, N, σ, ha, h⟩
  | succ n => exact ⟨fun _ => ⟨N, σ, ha, h⟩, by rw [hr]; intro i hi; cases hi⟩
theorem mB {c : Code} {α : Type} (M : α → Env) (C : Env) (Φ : α → World → Prop) (_hC : Sub C σ) (h1 : CW P N c (qW (fun N' σ' w' => N' = N ∧ ∃ x, Sub (M x) σ' ∧ Sub C σ' ∧ Φ x w') R) σ w) (h2 : ∀ x w', Φ x w' → R .normal N (M x ++ C) w') : CW P N c R σ w := fun a ha => by
  refine wp_mono (h1 a ha) ?_
  intro e a' w' hq
  cases e with
  | normal => obtain ⟨N', σ', hf, rfl, x, hM, hC, hΦ⟩ := hq; exact ⟨N', M x ++ C, Fits.app hM hC hf hf, h2 x w' hΦ⟩
  | exit i => exact hq
  | goto l => exact hq
  | ret => exact hq
  | panic c => exact hq
  | outgrown => exact hq
structure Build (P : Program) (t : TypeId) (places : Array (Nat × Nat)) (zero : Array Value) : Prop where
  ex : ∃ fs z, P.underlying t = some (.struct fs) ∧ (P.info? t).bind (·.zero) = some z ∧ z.cells = zero ∧ ∀ w, (fs.mapM (fun (f : Field) => do pure (f.offset, ← sizeOf f.type)) : Sem (Array (Nat × Nat))).run P w = .ok places w
def YE : List (Nat × Nat) → Nat → Option (Nat × Nat)
  | [], _ => none
  | a :: _, 0 => some a
  | _ :: l, n + 1 => YE l n
theorem VE : ∀ (l : List (Nat × Nat)) (n : Nat), YE l n = l[n]?
  | [], _ => by simp [YE]
  | _ :: _, 0 => by simp [YE]
  | _ :: l, n + 1 => by simp [YE, VE l n]
def tG : List Value → Nat → List Value → List Value
  | l, _, [] => l
  | l, o, v :: r => tG (l.set o v) (o + 1) r
def mL (places : List (Nat × Nat)) : List Value → List (Nat × Value) → Option (List Value)
  | cells, [] => some cells
  | cells, (i, v) :: rest =>
    match YE places i with
    | none => none
    | some (off, size) => cond (Nat.beq v.cells.toList.length size) (cond (Nat.ble (off + size) cells.length) (mL places (tG cells off v.cells.toList) rest) none) none
theorem yW (off : Nat) : ∀ (r l : List Value) (j : Nat), (r.zipIdx j).foldl (fun (cs : Array Value) x => cs.setIfInBounds (off + x.2) x.1) l.toArray = (tG l (off + j) r).toArray
  | [], _, _ => by simp [tG]
  | v :: r, l, j => by
    have := yW off r (l.set (off + j) v) (j + 1)
    simp only [List.zipIdx_cons, List.foldl_cons, List.setIfInBounds_toArray, tG]
    rw [this, Nat.add_assoc]
theorem OO {places : Array (Nat × Nat)} : ∀ (vs : List (Nat × Value)) (cells r : List Value), mL places.toList cells vs = some r → Instr.fill (fun i => places[i]?) cells.toArray vs = some r.toArray
  | [], cells, r, h => by simp only [mL, Option.some.injEq] at h; subst h; simp [Instr.fill]
  | (i, v) :: vs, cells, r, h => by
    simp only [mL, VE, Array.getElem?_toList] at h
    simp only [Instr.fill]
    cases hp : places[i]? with
    | none => rw [hp] at h; cases h
    | some os =>
      obtain ⟨off, size⟩ := os
      rw [hp] at h
      simp only at h
      cases hb : Nat.beq v.cells.toList.length size with
      | false => rw [hb] at h; cases h
      | true =>
        rw [hb] at h
        cases hl : Nat.ble (off + size) cells.length with
        | false => rw [hl] at h; cases h
        | true =>
          rw [hl] at h
          have h1 : v.cells.size = size := by simpa using Nat.eq_of_beq_eq_true hb
          have h2 : off + size ≤ cells.length := Nat.le_of_ble_eq_true hl
          simp only [cond_true] at h
          have := yW off v.cells.toList cells 0
          simp only
          rw [if_neg (by simp [h1, h2]), ← Array.foldl_toList, Array.toList_zipIdx, this]
          exact OO vs _ r h
theorem cA {t : TypeId} {parts : Array (Nat × Operand)} {vs : List (Nat × Value)} {places : Array (Nat × Nat)} {zero cells : List Value} {dst : Option Nat} {g : Option (Nat × Bool)} (hB : Build P t places zero.toArray)
    (hp : parts.toList.map (fun p => (p.1, σ.ev p.2)) = vs.map (fun q => (q.1, some q.2))) (hf' : mL places.toList zero vs = some cells) : Ex P σ ⟨dst, .build t parts, T, pos, after, g⟩ w (.agg cells.toArray) w := fun ρ ha => by
  have hf := OO vs zero cells hf'
  obtain ⟨fs, z, hu, hz, hzc, hr⟩ := hB.ex
  obtain ⟨i, hi, hz'⟩ := Option.bind_eq_some_iff.1 hz
  have hparts : (parts.map fun p => (p.1, ρ p.2)).toList = vs := by
    rw [Array.toList_map]
    clear hf hf'
    revert hp
    generalize parts.toList = l
    intro hp
    induction l generalizing vs with
    | nil => cases vs with | nil => rfl | cons _ _ => simp at hp
    | cons p l ih =>
      cases vs with
      | nil => simp at hp
      | cons x q =>
        simp only [List.map_cons, List.cons.injEq, Prod.mk.injEq] at hp ⊢
        exact ⟨Prod.ext hp.1.1 (ha _ _ hp.1.2), ih hp.2⟩
  rw [Array.toList_map] at hparts
  have hr' := hr w
  simp only [execOp, Instr.build, zeroValue, typeInfo, Sem.run_bind, run_program, Result.andThen_ok, hi, hz', Sem.run_pure, run_underlying hu, hr', hzc, Array.toList_map, hparts, hf]
theorem gS {rest : List Oper} {t U : TypeId} {x y : Operand} {v : Value} {b o : Nat} {cs : Array Value} (hx : σ.ev x = some (.pointer (some ⟨b, o, none⟩))) (hy : σ.ev y = some v) (h1 : v.oneCell' = true) (hs : eQ P t = some 1)
    (hb : w.heap[b]? = some (.cells cs U (0, 0))) (hle : o < cs.size)
    (h : ∀ w', w'.heap[b]? = some (.cells (cs.setIfInBounds o v) U (0, 0)) → Evo [b] w w' → WL P N ops R rest σ w') :
    WL P N ops R (⟨none, .store t x y, T, pos, after, none⟩ :: rest) σ w := bE hx hy h1 hs hb (by simpa using hle) h
theorem iS {f : Fn} {xs : Array Operand} {vs : List Value} {dst : Option Nat} {g : Option (Nat × Bool)} (hxs : xs.toList.map σ.ev = vs.map some) :
    Ex P σ ⟨dst, .makeFunc f #[] xs, T, pos, after, g⟩ w (.func f #[] vs.toArray) w := fun ρ ha => by
  have hargs : xs.map ρ = vs.toArray := by
    apply Array.ext'
    rw [Array.toList_map]
    revert hxs
    generalize xs.toList = l
    intro hxs
    induction l generalizing vs with
    | nil => cases vs with | nil => rfl | cons _ _ => simp at hxs
    | cons x l ih =>
      cases vs with
      | nil => simp at hxs
      | cons v vs =>
        simp only [List.map_cons, List.cons.injEq] at hxs
        simp only [List.map_cons, ha x v hxs.1]
        exact congrArg _ (ih hxs.2)
  simp [execOp, Instr.makeFunc, hargs]
theorem bK {x : Operand} {vs : Array Value} {i : Nat} {v : Value} {dst : Option Nat} {g : Option (Nat × Bool)} (hx : σ.ev x = some (.tuple vs)) (hv : vs[i]? = some v) : Ex P σ ⟨dst, .extract x i, T, pos, after, g⟩ w v w := fun ρ ha => by
  simp [execOp, ha x _ hx, Instr.extract, hv]
theorem ZZ {rest : List Oper} {dst : Option Nat} {fv : Operand} {f : FuncId} {cap : List Value} {xs : Array Operand} {ats : Array TypeId} {vs : List Value} {Φ : Value → World → Prop} (hgo : cX P f) (hfv : σ.ev fv = some (.func (.func f) #[] cap.toArray)) (hxs : xs.toList.map σ.ev = vs.map some)
    (hc : Calls P f (vs ++ cap).toArray w (Ret Φ)) (hd : ∀ k, dst = some k → Nat.blt k N.1 = true)
    (h : ∀ v w', Φ v w' → WL P N ops R rest (match dst with | some k => (k, v) :: σ | none => σ) w') :
    WL P N ops R (⟨dst, .call ⟨.value fv, xs, ats⟩, T, pos, after, none⟩ :: rest) σ w := fun a ha => wpList_plain rfl fun K hK => by
  have hargs : xs.map a.eval = vs.toArray := by
    apply Array.ext'
    rw [Array.toList_map]
    have hag := ha.agrees
    clear hK hc h ha
    generalize xs.toList = l at *
    clear xs
    revert vs
    induction l with
    | nil => intro vs hxs; cases vs with | nil => rfl | cons _ _ => simp at hxs
    | cons x l ih =>
      intro vs hxs
      cases vs with
      | nil => simp at hxs
      | cons v vs =>
        simp only [List.map_cons, List.cons.injEq] at hxs
        simp only [List.map_cons, hag x v hxs.1]
        exact congrArg _ (ih hxs.2)
  obtain ⟨fn, hf, hn, hbd⟩ := hgo
  have hn' : ¬ fn.name = "runtime.NumGoroutine" := by simpa using hn
  have hb' : ¬ fn.body = none := by intro hh; simp [hh] at hbd
  unfold Oper.wp
  have hrun : (execOp a.eval ⟨dst, .call ⟨.value fv, xs, ats⟩, T, pos, after, none⟩).run P w = .ok (.enter f (vs ++ cap).toArray) w := by
    simp only [execOp, resolve, hargs, ha.agrees fv _ hfv]
    simp [Deferred.ofValue, invoke, callFunc, hf, hn', hb']
  rw [hrun]
  show Calls P f (vs ++ cap).toArray w _
  refine hc.mono ?_
  rintro e w' ⟨v, rfl, hΦ⟩
  cases dst with
  | none => exact hK _ _ (h v w' hΦ a ha)
  | some k => exact hK _ _ (h v w' hΦ _ (ha.put (of_decide_eq_true (by simpa using hd k rfl)) v))
theorem aJ {rest : List Oper} {f : FuncId} {xs : Array Operand} {ats : Array TypeId} {vs : List Value} {Φ : Value → World → Prop} (hgo : cX P f) (hxs : xs.toList.map σ.ev = vs.map some)
    (hc : Calls P f vs.toArray w (Ret Φ)) (hd : Nat.blt d N.1 = true) (h : ∀ v w', Φ v w' → WL P N ops R rest ((d, v) :: σ) w') :
    WL P N ops R (⟨some d, .call ⟨.value (.func f), xs, ats⟩, T, pos, after, none⟩ :: rest) σ w := wl_call hgo hxs hc (fun k hk => by cases hk; exact hd) h
theorem xW {rest : List Oper} {fv : Operand} {f : FuncId} {cap : List Value} {xs : Array Operand} {ats : Array TypeId} {vs : List Value} {Φ : Value → World → Prop} (hgo : cX P f) (hfv : σ.ev fv = some (.func (.func f) #[] cap.toArray)) (hxs : xs.toList.map σ.ev = vs.map some)
    (hc : Calls P f (vs ++ cap).toArray w (Ret Φ)) (hd : Nat.blt d N.1 = true) (h : ∀ v w', Φ v w' → WL P N ops R rest ((d, v) :: σ) w') :
    WL P N ops R (⟨some d, .call ⟨.value fv, xs, ats⟩, T, pos, after, none⟩ :: rest) σ w := ZZ hgo hfv hxs hc (fun k hk => by cases hk; exact hd) h
end
section
variable {P : Program} {σ : Env} {w : World}
def MV (tmps : Array Value) : ResultVar → Sem Value
  | .tmp t => pure (tmps.getD t undef)
  | .cell a t => do loadVar t (← asAddr (tmps.getD a undef))
def ResOk (P : Program) (σ : Env) (w : World) (r : ResultVar) (v : Value) : Prop := ∀ a, Fits (a.tmps.size, a.defers) σ a → (MV a.tmps r).run P w = .ok v w
theorem ResOk.tmp {t : Tmp} {v : Value} (h : σ.get t = some v) : ResOk P σ w (.tmp t) v := fun a ha => by simp only [MV, Sem.run_pure, ha.2.2 t v h]
theorem ResOk.cell1 {t : Tmp} {ty U : TypeId} {b : Nat} {cs : Array Value} {fz : Nat × Nat} {v : Value} (h : σ.get t = some (.pointer (some ⟨b, 0, none⟩))) (ha : iN P ty = some false) (hb : w.heap[b]? = some (.cells cs U fz)) (hv : nth cs.toList 0 = some v) : ResOk P σ w (.cell t ty) v := fun a hf => by
  simp [MV, hf.2.2 t _ h, asAddr, loadVar, oM ha, aV hb hv]
theorem ResOk.cellA {t : Tmp} {ty U : TypeId} {b n : Nat} {cs : Array Value} {fz : Nat × Nat} (h : σ.get t = some (.pointer (some ⟨b, 0, none⟩))) (ha : iN P ty = some true) (hs : eQ P ty = some n) (hb : w.heap[b]? = some (.cells cs U fz)) (hl : cs.size = n) : ResOk P σ w (.cell t ty) (.agg cs) := fun a hf => by
  obtain ⟨inf, hin, hsz⟩ := Option.map_eq_some_iff.1 hs
  have hr := pP (P := P) (w := w) b 0 n 0 #[] cs.toList (by simpa using hl) (fun j v hv => eY hb (by simpa using hv))
  simp [MV, hf.2.2 t _ h, asAddr, loadVar, oM ha, sizeOf, typeInfo, hin, hsz, loadCells, hr]
theorem rN (fn : Func) (tmps : Array Value) : results fn tmps = ((fn.results.mapM (MV tmps)) >>= fun vs => pure (if h : vs.size = 1 then vs[0] else Value.tuple vs)) := by
  unfold results
  congr 1
theorem cK {n : Nat} {fn : Func} {r : ResultVar} {v : Value} {Φ : Value → World → Prop} (hr : fn.results = #[r]) (h1 : ResOk P σ w r v) (h : Φ v w) : pH P fn (Ret Φ) .ret (n, []) σ w := ⟨rfl, fun a ha => by
  refine ⟨v, ?_, _, rfl, h⟩
  rw [rN, hr]
  simp [h1 a ha]⟩
theorem pG {n : Nat} {fn : Func} {r r' : ResultVar} {v v' : Value} {Φ : Value → World → Prop} (hr : fn.results = #[r, r']) (h1 : ResOk P σ w r v) (h2 : ResOk P σ w r' v') (h : Φ (.tuple #[v, v']) w) : pH P fn (Ret Φ) .ret (n, []) σ w := ⟨rfl, fun a ha => by
  refine ⟨.tuple #[v, v'], ?_, _, rfl, h⟩
  rw [rN, hr]
  simp [h1 a ha, h2 a ha]⟩
theorem TZ {n : Nat} {fn : Func} {r r' r'' : ResultVar} {v v' v'' : Value} {Φ : Value → World → Prop} (hr : fn.results = #[r, r', r'']) (h1 : ResOk P σ w r v) (h2 : ResOk P σ w r' v') (h3 : ResOk P σ w r'' v'') (h : Φ (.tuple #[v, v', v'']) w) : pH P fn (Ret Φ) .ret (n, []) σ w := ⟨rfl, fun a ha => by
  refine ⟨.tuple #[v, v', v''], ?_, _, rfl, h⟩
  rw [rN, hr]
  simp [h1 a ha, h2 a ha, h3 a ha]⟩
theorem dI {n : Nat} {fn : Func} {t u x : Tmp} {v v' v'' : Value} {Φ : Value → World → Prop} (hr : fn.results = #[.tmp t, .tmp u, .tmp x]) (hv : σ.get t = some v) (hv' : σ.get u = some v') (hv'' : σ.get x = some v'') (h : Φ (.tuple #[v, v', v'']) w) : pH P fn (Ret Φ) .ret (n, []) σ w :=
  TZ hr (.tmp hv) (.tmp hv') (.tmp hv'') h
end
section
variable {P : Program} {N : NN} {R : gX} {σ : Env} {w : World} {ops : Array Oper} {rest : List Oper} {d : Nat} {op : Op} {T : TypeId} {pos : String} {after : Array Edge}
theorem aN {j : Nat} {pol b : Bool} {oj : Oper} {t : Nat} (h : WL P N ops R rest ((d, undef) :: σ) w) (hj : ops[j]? = some oj := by rfl) (ht : oj.dst = some t := by rfl) (hv : σ.get t = some (.bool b) := by rfl) (hb : b = !pol := by rfl) (hN : Nat.blt t N.1 = true := by rfl) (hd : Nat.blt d N.1 = true := by rfl) :
    WL P N ops R (⟨some d, op, T, pos, after, some (j, pol)⟩ :: rest) σ w := wl_no hj ht hv hb hN hd h
theorem dT {j : Nat} {pol : Bool} {oj : Oper} {t : Nat} (h : WL P N ops R rest ((d, undef) :: σ) w) (hj : ops[j]? = some oj := by rfl) (ht : oj.dst = some t := by rfl) (hv : σ.get t = some undef := by rfl) (hN : Nat.blt t N.1 = true := by rfl) (hd : Nat.blt d N.1 = true := by rfl) :
    WL P N ops R (⟨some d, op, T, pos, after, some (j, pol)⟩ :: rest) σ w := wl_nou hj ht hv hN hd h
theorem aS {dst : Option Nat} {j : Nat} {pol : Bool} {oj : Oper} {t : Nat} (h : WL P N ops R (⟨dst, op, T, pos, after, none⟩ :: rest) σ w) (hj : ops[j]? = some oj := by rfl) (ht : oj.dst = some t := by rfl) (hv : σ.get t = some (.bool pol) := by rfl) (hN : Nat.blt t N.1 = true := by rfl) :
    WL P N ops R (⟨dst, op, T, pos, after, some (j, pol)⟩ :: rest) σ w := wl_go hj ht hv hN h
theorem aB {x : Operand} {v : Value} (h : WL P N ops R rest ((d, v) :: σ) w) (hx : σ.ev x = some v := by rfl) (hd : Nat.blt d N.1 = true := by rfl) : WL P N ops R (⟨some d, .move x, T, pos, after, none⟩ :: rest) σ w := fH hd (aY hx) h
theorem bR {x : Operand} {v : Value} (h : WL P N ops R rest ((d, v) :: σ) w) (hx : σ.ev x = some v := by rfl) (hd : Nat.blt d N.1 = true := by rfl) : WL P N ops R (⟨some d, .assign x, T, pos, after, none⟩ :: rest) σ w := fH hd (dU hx) h
theorem bM {c x y : Operand} {v : Value} (h : WL P N ops R rest ((d, v) :: σ) w) (hc : σ.ev c = some (.bool false) := by rfl) (hx : σ.ev y = some v := by rfl) (hd : Nat.blt d N.1 = true := by rfl) : WL P N ops R (⟨some d, .pick c x y, T, pos, after, none⟩ :: rest) σ w := fH hd (eU hc hx) h
theorem bW {c x y : Operand} {v : Value} (h : WL P N ops R rest ((d, v) :: σ) w) (hc : σ.ev c = some (.bool true) := by rfl) (hx : σ.ev x = some v := by rfl) (hd : Nat.blt d N.1 = true := by rfl) : WL P N ops R (⟨some d, .pick c x y, T, pos, after, none⟩ :: rest) σ w := fH hd (dX hc hx) h
end
def Opens {α : Type} (P : Program) (t : TypeId) (R : Rel α) : Prop :=
  ∀ (H : Type) (enc : TypeId × Value → H) (w : World) (fuel : Nat) (cs : List Value) (x : DataW H × List MemPlace), DataW.trod enc P w 0 (fun _ => true) true fuel t cs = some x →
    (∀ n, n ∈ x.1.weights P t → n ≤ reachBytes) → ∃ d, R [] w cs d
theorem YB {P : Program} {t : TypeId} {k : IntKind} (ht : P.underlying t = some (.int k)) : Opens P t (RInt k) := by
  intro H enc w fuel cs x h _
  obtain ⟨n, hcs, _, hw⟩ := DataW.trod_int ht h
  refine ⟨n, hcs, ?_⟩
  simpa [Lit.wf] using hw
theorem HM {w : World} {a : Addr} {n : Nat} {vs : List Value} (h : w.cells? 0 a n = some vs) : vs.length = n ∧ ∀ j v, vs[j]? = some v → w.cell? (a.add j) = some v := by
  unfold World.cells? at h
  rw [if_pos (Nat.zero_le _)] at h
  have hl := mapM_some_length h
  refine ⟨by simpa using hl, fun j v hv => ?_⟩
  have hj : j < n := by have := (List.getElem?_eq_some_iff.1 hv).1; simp at hl; omega
  have := mapM_some_get h j j (by simp [hj])
  rw [hv] at this
  exact this
theorem yV {H : Type} {P : Program} {e : TypeId} : ∀ {l : List (DataW H)} {d : DataW H}, d ∈ l → ∀ n, n ∈ d.weights P e → n ∈ DataW.weightsAll P e l
  | [], _, h, _, _ => by cases h
  | x :: l, d, h, n, hn => by
    simp only [DataW.weightsAll, List.mem_append]
    rcases List.mem_cons.1 h with rfl | h
    · exact .inl hn
    · exact .inr (yV h n hn)
def ZT {α : Type} (sz bytes : Nat) (R : Rel α) : Rel (List α) := fun X w vs ds => ∃ v, vs = [v] ∧ RSl sz R X w v ds ∧ ds.length * bytes ≤ 140737488351232
theorem vA {H : Type} {P : Program} {t : TypeId} {fs : Array Field} (ht : P.underlying t = some (.struct fs)) {xs : List (DataW H)} {i : Nat} {f : Field} {d : DataW H} (hf : fs[i]? = some f) (hd : xs[i]? = some d) : ∀ n, n ∈ d.weights P f.type → n ∈ (DataW.agg xs).weights P t := fun n hn => by
  simp only [DataW.weights, ht]
  exact DataW.weights_mem_each (j := i) (by simp [hf]) hd n hn
theorem NH {α H : Type} {P : Program} {t : TypeId} {fs : Array Field} {enc : TypeId × Value → H} {w : World} {fuel : Nat} {cs : List Value} {x : DataW H × List MemPlace} (ht : P.underlying t = some (.struct fs))
    (h : DataW.trod enc P w 0 (fun _ => true) true fuel t cs = some x) (hw : ∀ n, n ∈ x.1.weights P t → n ≤ reachBytes) (i : Nat) {f : Field} (hf : fs[i]? = some f) {R : Rel α} (hR : Opens P f.type R) : ∃ d, R [] w ((cs.drop f.offset).take (P.cellsOf f.type)) d := by
  obtain ⟨xs, n, rfl, rfl, hl, hlen, hx⟩ := DataW.trod_struct ht h
  have hi : i < xs.length := by rw [hlen]; exact (Array.getElem?_eq_some_iff.1 hf).1
  have h1 := hx i f hf
  rw [List.getElem?_eq_getElem hi] at h1
  exact hR H enc w n _ _ h1 (fun m hm => hw m (vA ht hf (by simp [hi]) m hm))
theorem IQ {α H : Type} {P : Program} {t T off m : Nat} {fs : Array Field} {enc : TypeId × Value → H} {w : World} {fuel : Nat} {cs : List Value} {x : DataW H × List MemPlace} (ht : P.underlying t = some (.struct fs))
    (h : DataW.trod enc P w 0 (fun _ => true) true fuel t cs = some x) (hw : ∀ n, n ∈ x.1.weights P t → n ≤ reachBytes) (i : Nat) {f : Field} (hf : fs[i]? = some f) (hT : f.type = T) (ho : f.offset = off) (hm : P.cellsOf T = m) {R : Rel α} (hR : Opens P T R) : ∃ d, R [] w ((cs.drop off).take m) d := by
  subst hT ho hm
  exact NH ht h hw i hf hR
theorem GG {H : Type} {P : Program} {t : TypeId} {fs : Array Field} {enc : TypeId × Value → H} {w : World} {fuel : Nat} {cs : List Value} {x : DataW H × List MemPlace} (ht : P.underlying t = some (.struct fs))
    (h : DataW.trod enc P w 0 (fun _ => true) true fuel t cs = some x) : cs.length = P.cellsOf t := by
  obtain ⟨_, _, _, _, hl, _⟩ := DataW.trod_struct ht h
  exact hl
end Go.W
namespace Go.W
open Go.RowKit
theorem wnn {P : Program} {N : NN} {ops : Array Oper} {R : gX} {σ : Env} {w : World} {K : NN → Env → World → Prop} (h : K N σ w) : WL P N ops (qW K R) [] σ w := aP (aA h)
theorem csr {P : Program} {N : NN} {R : gX} {σ : Env} {w : World} {id : Nat} {l : List Oper} {y : Code} (h : WL P N l.toArray (qW (fun N σ w => CW P N y R σ w) R) l σ w) : CW P N (.seq (.region id l.toArray false) y) R σ w := aI (aF h)
theorem wan {P : Program} {N : NN} {ops : Array Oper} {R : gX} {σ : Env} {w : World} {K : NN → Env → World → Prop} {d : Nat} {T : TypeId} {pos : String} {after : Array Edge} {x : Operand} {v : Value} (h : K N ((d, v) :: σ) w) (hx : σ.ev x = some v := by rfl) (hd : Nat.blt d N.1 = true := by rfl) : WL P N ops (qW K R) [⟨some d, .assign x, T, pos, after, none⟩] σ w := bR (aP (aA h)) hx hd
theorem wfl {P : Program} {N : NN} {ops : Array Oper} {R : gX} {σ : Env} {w : World} {rest : List Oper} {d d2 : Nat} {T T2 : TypeId} {pos pos2 : String} {after after2 : Array Edge} {x y : Operand} {s t U : TypeId} {i off b o : Nat} {cs : Array Value} {fz : Nat × Nat} {v : Value} (hx : σ.ev x = some (.pointer (some ⟨b, o, none⟩))) (hf : dA P s i = some off) (hy : Env.ev ((d, .pointer (some ⟨b, o + off, none⟩)) :: σ) y = some (.pointer (some ⟨b, o + off, none⟩))) (ht : iN P t = some false) (hb : w.heap[b]? = some (.cells cs U fz)) (hv : nth cs.toList (o + off) = some v) (h : WL P N ops R rest ((d2, v) :: (d, .pointer (some ⟨b, o + off, none⟩)) :: σ) w) (hd : Nat.blt d N.1 = true := by rfl) (hd2 : Nat.blt d2 N.1 = true := by rfl) : WL P N ops R (⟨some d, .fieldAddr s x i, T, pos, after, none⟩ :: ⟨some d2, .load t y, T2, pos2, after2, none⟩ :: rest) σ w := fH hd (aD hx hf) (fH hd2 (aQ hy ht (aV hb hv)) h)
theorem wel {P : Program} {N : NN} {ops : Array Oper} {R : gX} {σ : Env} {w : World} {rest : List Oper} {d : Nat} {T : TypeId} {pos : String} {after : Array Edge} {t t' : TypeId} {x y : Operand} {k : IntKind} {m n : Int} (h : WL P N ops R rest ((d, .bool (decide (m = n))) :: σ) w) (hx : σ.ev x = some (.int k m) := by rfl) (hy : σ.ev y = some (.int k n) := by rfl) (hd : Nat.blt d N.1 = true := by rfl) : WL P N ops R (⟨some d, .binOp .eql t x y t', T, pos, after, none⟩ :: rest) σ w := fH hd (lZ hx hy) h
end Go.W
namespace Go.Proofs.YtidpigbinpaaeaaGreat
open Go.Shelf
def yU : Go.Shelf.Ren := ⟨fun | 137 => 26 | 217 => 49 | 266 => 74 | n => n, fun | 9 => 9 | 5 => 5 | 3 => 3 | n => n, fun | n => n⟩
theorem KH : Go.Proofs.Lays.n137 Tryz.prog yU := {
  mixed := by kernel_rfl
  f137 := Tryz.func26.trans (congrArg some (by kernel_rfl))
  f217 := Tryz.func49.trans (congrArg some (by kernel_rfl))
  f266 := Tryz.func74.trans (congrArg some (by kernel_rfl))
  t3 := Tryz.underlying3
  a3 := Tryz.isAgg3
  z3 := Tryz.sizeOf3
  v3 := Tryz.zeroValue3
  t5 := Tryz.underlying5
  a5 := Tryz.isAgg5
  z5 := Tryz.sizeOf5
  v5 := Tryz.zeroValue5
  t9 := Tryz.underlying9
  a9 := Tryz.isAgg9
  z9 := Tryz.sizeOf9
  v9 := Tryz.zeroValue9 }
open Go.RowKit in
theorem sC (s : ByteArray) (c : Int) (w : World) :
    Calls Tryz.prog 26 #[.string s, .int .u8 c] w fun e w' => e = .returned (.int .i64 (Lib.indexByte s.data.toList c.toNat.toUInt8)) ∧ w' = w := Any.strings_IndexByte KH s c w
def yT : Go.Shelf.Ren := ⟨fun | 143 => 160 | 219 => 168 | 217 => 49 | 225 => 172 | 224 => 173 | 267 => 174 | 266 => 74 | 314 => 183 | n => n, fun | 9 => 9 | 3 => 3 | 4 => 4 | 5 => 5 | 46 => 167 | 146 => 238 | 51 => 183 | n => n, fun | 1 => 0 | n => n⟩
theorem KG : Go.Proofs.Lays.n143 Tryz.prog yT := {
  mixed := by kernel_rfl
  f143 := Tryz.func160.trans (congrArg some (by kernel_rfl))
  f217 := Tryz.func49.trans (congrArg some (by kernel_rfl))
  f219 := Tryz.func168.trans (congrArg some (by kernel_rfl))
  f224 := Tryz.func173.trans (congrArg some (by kernel_rfl))
  f225 := Tryz.func172.trans (congrArg some (by kernel_rfl))
  f266 := Tryz.func74.trans (congrArg some (by kernel_rfl))
  f267 := Tryz.func174.trans (congrArg some (by kernel_rfl))
  f314 := Tryz.func183.trans (congrArg some (by kernel_rfl))
  t3 := Tryz.underlying3
  a3 := Tryz.isAgg3
  z3 := Tryz.sizeOf3
  v3 := Tryz.zeroValue3
  t4 := Tryz.underlying4
  a4 := Tryz.isAgg4
  z4 := Tryz.sizeOf4
  v4 := Tryz.zeroValue4
  t5 := Tryz.underlying5
  a5 := Tryz.isAgg5
  z5 := Tryz.sizeOf5
  v5 := Tryz.zeroValue5
  t9 := Tryz.underlying9
  a9 := Tryz.isAgg9
  z9 := Tryz.sizeOf9
  v9 := Tryz.zeroValue9
  t46 := Tryz.underlying167
  a46 := Tryz.isAgg167
  z46 := Tryz.sizeOf167
  v46 := Tryz.zeroValue167
  t51 := Tryz.underlying183
  a51 := Tryz.isAgg183
  z51 := Tryz.sizeOf183
  v51 := Tryz.zeroValue183
  t146 := Tryz.underlying238
  a146 := Tryz.isAgg238
  z146 := Tryz.sizeOf238
  v146 := Tryz.zeroValue238
  g1 := by kernel_rfl }
open Go.RowKit Go.Lib in
theorem wA (s sub : ByteArray) (m : Int) (w : World) (hs : s.size < 4294967281) (hm : w.cell? ⟨0, 0, none⟩ = some (.int .i64 m)) :
    Calls Tryz.prog 160 #[.string s, .string sub] w fun e w' => e = .returned (.int .i64 (Lib.index s.data.toList sub.data.toList)) ∧ w' = w := Any.strings_Index KG s sub m w hs hm
def wX : Go.Shelf.Ren := ⟨fun | 143 => 160 | 219 => 168 | 217 => 49 | 225 => 172 | 224 => 173 | 267 => 174 | 266 => 74 | 314 => 183 | n => n, fun | 9 => 9 | 3 => 3 | 4 => 4 | 5 => 5 | 46 => 167 | 146 => 238 | 51 => 183 | n => n, fun | 1 => 0 | n => n⟩
theorem Tryz.laysM143 : Go.Proofs.LaysM.n143 Tryz.prog wX := {
  mixed := by kernel_rfl
  f143 := Tryz.func160.trans (congrArg some (by kernel_rfl))
  f217 := Tryz.func49.trans (congrArg some (by kernel_rfl))
  f219 := Tryz.func168.trans (congrArg some (by kernel_rfl))
  f224 := Tryz.func173.trans (congrArg some (by kernel_rfl))
  f225 := Tryz.func172.trans (congrArg some (by kernel_rfl))
  f266 := Tryz.func74.trans (congrArg some (by kernel_rfl))
  f267 := Tryz.func174.trans (congrArg some (by kernel_rfl))
  f314 := Tryz.func183.trans (congrArg some (by kernel_rfl))
  t3 := Tryz.underlying3
  a3 := Tryz.isAgg3
  z3 := Tryz.sizeOf3
  v3 := Tryz.zeroValue3
  t4 := Tryz.underlying4
  a4 := Tryz.isAgg4
  z4 := Tryz.sizeOf4
  v4 := Tryz.zeroValue4
  t5 := Tryz.underlying5
  a5 := Tryz.isAgg5
  z5 := Tryz.sizeOf5
  v5 := Tryz.zeroValue5
  t9 := Tryz.underlying9
  a9 := Tryz.isAgg9
  z9 := Tryz.sizeOf9
  v9 := Tryz.zeroValue9
  t46 := Tryz.underlying167
  a46 := Tryz.isAgg167
  z46 := Tryz.sizeOf167
  v46 := Tryz.zeroValue167
  t51 := Tryz.underlying183
  a51 := Tryz.isAgg183
  z51 := Tryz.sizeOf183
  v51 := Tryz.zeroValue183
  t146 := Tryz.underlying238
  a146 := Tryz.isAgg238
  z146 := Tryz.sizeOf238
  v146 := Tryz.zeroValue238
  g1 := by kernel_rfl
  i3 := by kernel_rfl
  i4 := by kernel_rfl
  i5 := by kernel_rfl
  i9 := by kernel_rfl
  i46 := by kernel_rfl
  i51 := by kernel_rfl
  i146 := by kernel_rfl
  m1 := by kernel_rfl
  s1_3 := fun w h => Go.Proofs.cell_of_shapedOpen_int (zero := #[.int .i64 0]) (t := 3) h (of_decide_eq_true (by kernel_rfl)) (by kernel_rfl) rfl (by kernel_rfl) (by kernel_rfl) Tryz.underlying3 }
def DV : Go.Shelf.Ren := ⟨fun | 6 => 165 | 15 => 91 | 14 => 171 | 28 => 113 | 29 => 114 | 20 => 175 | 21 => 176 | 22 => 177 | 23 => 178 | 24 => 179 | 25 => 180 | 26 => 181 | 27 => 182 | 46 => 184 | 47 => 138 | 48 => 139 | 49 => 185 | 50 => 186 | 57 => 187 | n => n, fun | 22 => 68 | 24 => 135 | 25 => 230 | 3 => 3 | 39 => 167 | 0 => 0 | 53 => 183 | 55 => 185 | 4 => 4 | 46 => 177 | 45 => 176 | 50 => 142 | 5 => 5 | 9 => 9 | 66 => 202 | 70 => 206 | 76 => 218 | 77 => 193 | n => n, fun | n => n⟩
theorem DW : Go.Proofs.SlLaysF0.n6 Tryz.prog DV := {
  mixed := by kernel_rfl
  f6 := ⟨Tryz.f165.name, by decide, Tryz.func165.trans (congrArg some (by kernel_rfl))⟩
  f14 := ⟨Tryz.f171.name, by decide, Tryz.func171.trans (congrArg some (by kernel_rfl))⟩
  f15 := Tryz.func91.trans (congrArg some (by kernel_rfl))
  f20 := ⟨Tryz.f175.name, by decide, Tryz.func175.trans (congrArg some (by kernel_rfl))⟩
  f21 := ⟨Tryz.f176.name, by decide, Tryz.func176.trans (congrArg some (by kernel_rfl))⟩
  f22 := ⟨Tryz.f177.name, by decide, Tryz.func177.trans (congrArg some (by kernel_rfl))⟩
  f23 := ⟨Tryz.f178.name, by decide, Tryz.func178.trans (congrArg some (by kernel_rfl))⟩
  f24 := ⟨Tryz.f179.name, by decide, Tryz.func179.trans (congrArg some (by kernel_rfl))⟩
  f25 := ⟨Tryz.f180.name, by decide, Tryz.func180.trans (congrArg some (by kernel_rfl))⟩
  f26 := ⟨Tryz.f181.name, by decide, Tryz.func181.trans (congrArg some (by kernel_rfl))⟩
  f27 := ⟨Tryz.f182.name, by decide, Tryz.func182.trans (congrArg some (by kernel_rfl))⟩
  f28 := Tryz.func113.trans (congrArg some (by kernel_rfl))
  f29 := Tryz.func114.trans (congrArg some (by kernel_rfl))
  f46 := ⟨Tryz.f184.name, by decide, Tryz.func184.trans (congrArg some (by kernel_rfl))⟩
  f47 := Tryz.func138.trans (congrArg some (by kernel_rfl))
  f48 := Tryz.func139.trans (congrArg some (by kernel_rfl))
  f49 := ⟨Tryz.f185.name, by decide, Tryz.func185.trans (congrArg some (by kernel_rfl))⟩
  f50 := ⟨Tryz.f186.name, by decide, Tryz.func186.trans (congrArg some (by kernel_rfl))⟩
  f57 := ⟨Tryz.f187.name, by decide, Tryz.func187.trans (congrArg some (by kernel_rfl))⟩
  t0 := Tryz.underlying0
  a0 := Tryz.isAgg0
  z0 := Tryz.sizeOf0
  v0 := Tryz.zeroValue0
  t3 := Tryz.underlying3
  a3 := Tryz.isAgg3
  z3 := Tryz.sizeOf3
  v3 := Tryz.zeroValue3
  t4 := Tryz.underlying4
  a4 := Tryz.isAgg4
  z4 := Tryz.sizeOf4
  v4 := Tryz.zeroValue4
  t5 := Tryz.underlying5
  a5 := Tryz.isAgg5
  z5 := Tryz.sizeOf5
  v5 := Tryz.zeroValue5
  t9 := Tryz.underlying9
  a9 := Tryz.isAgg9
  z9 := Tryz.sizeOf9
  v9 := Tryz.zeroValue9
  t22 := Tryz.underlying68
  a22 := Tryz.isAgg68
  z22 := Tryz.sizeOf68
  v22 := Tryz.zeroValue68
  t25 := Tryz.underlying230
  a25 := Tryz.isAgg230
  z25 := Tryz.sizeOf230
  v25 := Tryz.zeroValue230
  t39 := Tryz.underlying167
  a39 := Tryz.isAgg167
  z39 := Tryz.sizeOf167
  v39 := Tryz.zeroValue167
  t45 := Tryz.underlying176
  a45 := Tryz.isAgg176
  z45 := Tryz.sizeOf176
  v45 := Tryz.zeroValue176
  t46 := Tryz.underlying177
  a46 := Tryz.isAgg177
  z46 := Tryz.sizeOf177
  v46 := Tryz.zeroValue177
  t50 := Tryz.underlying142
  a50 := Tryz.isAgg142
  z50 := Tryz.sizeOf142
  v50 := Tryz.zeroValue142
  t53 := Tryz.underlying183
  a53 := Tryz.isAgg183
  z53 := Tryz.sizeOf183
  v53 := Tryz.zeroValue183
  t55 := Tryz.underlying185
  a55 := Tryz.isAgg185
  z55 := Tryz.sizeOf185
  v55 := Tryz.zeroValue185
  t66 := Tryz.underlying202
  a66 := Tryz.isAgg202
  z66 := Tryz.sizeOf202
  v66 := Tryz.zeroValue202
  t70 := Tryz.underlying206
  a70 := Tryz.isAgg206
  z70 := Tryz.sizeOf206
  v70 := Tryz.zeroValue206
  t76 := Tryz.underlying218
  a76 := Tryz.isAgg218
  z76 := Tryz.sizeOf218
  v76 := Tryz.zeroValue218
  t77 := Tryz.underlying193
  a77 := Tryz.isAgg193
  z77 := Tryz.sizeOf193
  v77 := Tryz.zeroValue193 }
end Go.Proofs.YtidpigbinpaaeaaGreat
namespace Go.Proofs.YtidpigbinpaaeaaGreat
open Go.ChangeAt Go.ChangeShapes Go.RowKit Go.W Go.WideShapes
theorem HO {H : Type} {d : DataW H} {l : List (DataW H)} (h : d ∈ l) : Rows.uptoBulk d ≤ Rows.uptoBulkAll l := by
  induction l with
  | nil => cases h
  | cons x r ih =>
    simp only [Rows.uptoBulkAll]
    rcases List.mem_cons.1 h with e | e
    · subst e; omega
    · have := ih e; omega
theorem PU {H : Type} (d : DataW H) : 1 ≤ Rows.uptoBulk d := by
  cases d with
  | lit l => cases l <;> simp [Rows.uptoBulk]
  | nil => simp [Rows.uptoBulk]
  | ptr d => simp [Rows.uptoBulk]
  | slice elems spare => simp [Rows.uptoBulk]
  | agg parts => simp [Rows.uptoBulk]
  | iface t d => simp [Rows.uptoBulk]
  | map entries => simp [Rows.uptoBulk]
  | held h => simp [Rows.uptoBulk]
theorem ZN {H : Type} (l : List (DataW H)) (m : Nat) : Rows.uptoBulkAll (l.take m) ≤ Rows.uptoBulkAll l := by
  induction l generalizing m with
  | nil => simp [Rows.uptoBulkAll]
  | cons x r ih =>
    cases m with
    | zero => simp [Rows.uptoBulkAll]
    | succ m => have := ih m; simp only [List.take_succ_cons, Rows.uptoBulkAll]; omega
theorem ZO {H : Type} (l : List (DataW H)) (d : DataW H) : Rows.uptoBulkAll (l ++ [d]) = Rows.uptoBulkAll l + Rows.uptoBulk d := by
  induction l with
  | nil => simp [Rows.uptoBulkAll]
  | cons x r ih => simp only [List.cons_append, Rows.uptoBulkAll, ih]; omega
def oL {α : Type} (F : Nat) (t : TypeId) (R : Rel α) (μ : α → Nat) : Prop :=
  ∀ (H : Type) (enc : TypeId × Value → H) (w : World) (fuel : Nat) (cs : List Value) (x : DataW H × List MemPlace), fuel ≤ F → DataW.trod enc Tryz.prog w 0 (fun _ => true) true fuel t cs = some x →
    (∀ n, n ∈ x.1.weights Tryz.prog t → n ≤ reachBytes) → Rows.uptoBulk x.1 ≤ 1048576 → ∃ d, R [] w cs d ∧ μ d + 26 ≤ 26 * Rows.uptoBulk x.1
def partAt {H : Type} : DataW H → Nat → Option (DataW H)
  | .agg l, i => l[i]?
  | _, _ => none
theorem rV {α : Type} {F : Nat} {t e : TypeId} {R : Rel α} {μ : α → Nat} {sz bytes : Nat} (ht : Tryz.prog.underlying t = some (.slice e)) (hs : Tryz.prog.cellsOf e = sz) (hb : Tryz.prog.bytesOf e = bytes) (h0 : 0 < sz) (hR : oL F e R μ) : oL F t (ZT sz bytes R) (fun ds => (ds.map μ).sum + 26 * ds.length) := by
  subst hs hb
  intro H enc w fuel cs x hfu h hw hbk
  rcases DataW.trod_slice ht h with ⟨rfl, rfl⟩ | ⟨a, len, cap, elems, rest, n, rfl, rfl, rfl, _, hle, _, hel, hat, _, _⟩
  · exact ⟨[], ⟨.slice none 0 0, rfl, ⟨none, 0, rfl, Nat.le_refl _, fun k hk => by simp at hk⟩, by simp⟩, by simp [Rows.uptoBulk]⟩
  · have hwl : (elems.length + rest.length) * Tryz.prog.bytesOf e ≤ 140737488351232 := by
      have := hw _ (by simp [DataW.weights, ht]; exact .inl rfl)
      simpa [reachBytes] using this
    have hwe : ∀ i (hi : i < elems.length) m, m ∈ (elems[i]).1.weights Tryz.prog e → m ≤ reachBytes := fun i hi m hm => by
      refine hw m ?_
      simp only [DataW.weights, ht, List.mem_cons, List.mem_append]
      exact .inr (.inl (yV (List.mem_map.2 ⟨elems[i], List.getElem_mem hi, rfl⟩) m hm))
    have key : ∀ i (hi : i < len), ∃ b o vs d, a = ⟨b, o, none⟩ ∧ vs.length = Tryz.prog.cellsOf e ∧ CellsAt w b (o + i * Tryz.prog.cellsOf e) vs ∧ R [] w vs d ∧ ∀ hi' : i < elems.length, μ d + 26 ≤ 26 * Rows.uptoBulk (elems[i]).1 := by
      intro i hi
      have h1 := hat i hi
      have hi' : i < elems.length := by omega
      rw [List.getElem?_eq_getElem hi'] at h1
      obtain ⟨vs, hvs, htr⟩ := Option.bind_eq_some_iff.1 h1
      obtain ⟨hl, hc⟩ := HM hvs
      obtain ⟨d, hd, hmu⟩ := hR H enc w n vs _ (by omega) htr (hwe i hi') (by have h9 := HO (d := (elems[i]).1) (l := elems.map (·.1)) (List.mem_map.2 ⟨elems[i], List.getElem_mem hi', rfl⟩); simp only [Rows.uptoBulk] at hbk; omega)
      obtain ⟨b, o, spot⟩ := a
      have hspot : spot = none := by
        cases vs with
        | nil => simp at hl; omega
        | cons v0 vs =>
          have h2 := hc 0 v0 (by simp)
          have h3 := World.cell?_spot h2
          by_cases hz : i * Tryz.prog.cellsOf e = 0
          · rw [hz] at h3; simpa [Addr.add] using h3
          · have hz' : i * Tryz.prog.cellsOf e ≠ 0 := hz
            have hat0 := hat 0 (by omega)
            rw [List.getElem?_eq_getElem (by omega)] at hat0
            obtain ⟨us, hus, _⟩ := Option.bind_eq_some_iff.1 hat0
            obtain ⟨hul, huc⟩ := HM hus
            cases us with
            | nil => simp at hul; omega
            | cons u0 us =>
              have h4 := World.cell?_spot (huc 0 u0 (by simp))
              simpa [Addr.add] using h4
      subst hspot
      refine ⟨b, o, vs, d, rfl, hl, fun j v hv => ?_, hd, fun _ => hmu⟩
      have h2 := hc j v hv
      have hadd : ((⟨b, o, none⟩ : Addr).add (i * Tryz.prog.cellsOf e)).add j = ⟨b, o + i * Tryz.prog.cellsOf e + j, none⟩ := by
        unfold Addr.add
        split <;> split <;> simp_all
      rw [hadd] at h2
      exact h2
    have hex : ∀ m, m ≤ len → ∃ ds : List α, ds.length = m ∧ (ds.map μ).sum + 26 * m ≤ 26 * Rows.uptoBulkAll ((elems.map (·.1)).take m) ∧ ∀ k (hk : k < ds.length), ∃ b o vs, some a = some ⟨b, o, none⟩ ∧ b ∉ ([] : List Nat) ∧ vs.length = Tryz.prog.cellsOf e ∧ CellsAt w b (o + k * Tryz.prog.cellsOf e) vs ∧ R [] w vs ds[k] := by
      intro m
      induction m with
      | zero => exact fun _ => ⟨[], rfl, by simp, fun k hk => by simp at hk⟩
      | succ m ih =>
        intro hm
        obtain ⟨ds, hl, hmu, hds⟩ := ih (by omega)
        obtain ⟨b, o, vs, d, ha, h1, h2, h3, h4⟩ := key m (by omega)
        have hme : m < elems.length := by omega
        have h4 := h4 hme
        have h5 : (elems.map (·.1)).take (m + 1) = (elems.map (·.1)).take m ++ [(elems[m]).1] := by rw [List.take_succ_eq_append_getElem (by simpa using hme)]; simp
        refine ⟨ds ++ [d], by simp [hl], by rw [h5, ZO, List.map_append, List.sum_append]; simp only [List.map_cons, List.map_nil, List.sum_cons, List.sum_nil]; omega, fun k hk => ?_⟩
        by_cases hkm : k < ds.length
        · rw [List.getElem_append_left hkm]; exact hds k hkm
        · obtain rfl : k = m := by simp at hk; omega
          rw [List.getElem_append_right (by omega)]
          simp only [hl, Nat.sub_self, List.getElem_cons_zero]
          exact ⟨b, o, vs, by rw [ha], by simp, h1, h2, h3⟩
    obtain ⟨ds, hl, hmu, hds⟩ := hex len (Nat.le_refl _)
    refine ⟨ds, ⟨.slice (some a) len cap, rfl, ⟨some a, cap, by rw [hl], by omega, hds⟩, ?_⟩, ?_⟩
    case refine_2 =>
      have h6 := ZN (elems.map (·.1)) len
      simp only [Rows.uptoBulk]
      omega
    rw [hl, ← hel]
    exact Nat.le_trans (Nat.mul_le_mul_right _ (Nat.le_add_right _ _)) hwl
theorem rU (F : Nat) {t : TypeId} (ht : Tryz.prog.underlying t = some .string) : oL F t (fun _ _ vs s => vs = [.string s] ∧ s.size ≤ 1048576) (fun s => s.size) := by
  intro H enc w fuel cs x hfu h hw hbk
  obtain ⟨s, hcs, rfl, _⟩ := DataW.trod_string ht h
  have : s.data.toList.length = s.size := Array.length_toList
  simp only [Rows.uptoBulk] at hbk ⊢
  exact ⟨s, ⟨hcs, by omega⟩, by omega⟩
theorem mZ {α H : Type} {F : Nat} {t T off m : Nat} {fs : Array Field} {enc : TypeId × Value → H} {w : World} {fuel : Nat} {cs : List Value} {x : DataW H × List MemPlace} (ht : Tryz.prog.underlying t = some (.struct fs)) (hfu : fuel ≤ F + 1)
    (h : DataW.trod enc Tryz.prog w 0 (fun _ => true) true fuel t cs = some x) (hwt : ∀ n, n ∈ x.1.weights Tryz.prog t → n ≤ reachBytes) (hw : Rows.uptoBulk x.1 ≤ 1048576) (i : Nat) {f : Field} (hf : fs[i]? = some f) (hT : f.type = T) (ho : f.offset = off) (hm : Tryz.prog.cellsOf T = m) {R : Rel α} {μ : α → Nat} (hR : oL F T R μ) :
    ∃ d p, R [] w ((cs.drop off).take m) d ∧ μ d + 26 ≤ 26 * Rows.uptoBulk p ∧ partAt x.1 i = some p := by
  subst hT ho hm
  obtain ⟨xs, n, rfl, rfl, hl, hlen, hx⟩ := DataW.trod_struct ht h
  have hi : i < xs.length := by rw [hlen]; exact (Array.getElem?_eq_some_iff.1 hf).1
  have h1 := hx i f hf
  rw [List.getElem?_eq_getElem hi] at h1
  have hb : Rows.uptoBulk (xs[i]).1 ≤ 1048576 := by
    simp only [Rows.uptoBulk] at hw
    have := HO (d := (xs[i]).1) (l := xs.map (·.1)) (List.mem_map.2 ⟨xs[i], List.getElem_mem hi, rfl⟩)
    omega
  obtain ⟨d, h2, h3⟩ := hR H enc w n _ _ (by omega) h1 (fun k hk => hwt k (vA ht hf (by simp [hi]) k hk)) hb
  exact ⟨d, _, h2, h3, by simp [partAt, hi]⟩
theorem own : ownKnob Tryz.prog.godebug = none := by kernel_rfl
theorem JA : laidOutB Tryz.prog = true := by kernel_rfl
end Go.Proofs.YtidpigbinpaaeaaGreat
namespace Go.W
theorem wrapU {k : IntKind} (hk : k.signed = false) (n : Nat) : k.wrap (n : Int) = ((n % 2 ^ k.bits : Nat) : Int) := by
  cases k <;> simp [IntKind.signed] at hk <;> simp [IntKind.wrap, IntKind.signed, IntKind.bits]
def i64 (n : Int) : Int := if n % 18446744073709551616 < 9223372036854775808 then n % 18446744073709551616 else n % 18446744073709551616 - 18446744073709551616
section
variable {P : Program} {σ : Env} {w : World} {dst : Option Nat} {T : TypeId} {pos : String} {after : Array Edge} {g : Option (Nat × Bool)}
theorem bitsBack {k : IntKind} {m n : Nat} (hk : k.signed = false) (hm : m < 2 ^ k.bits) (hn : n < 2 ^ k.bits) : (BitVec.ofInt k.bits m).toNat = m ∧ (BitVec.ofInt k.bits n).toNat = n := by
  constructor
  · rw [BitVec.ofInt_natCast, BitVec.toNat_ofNat, Nat.mod_eq_of_lt hm]
  · rw [BitVec.ofInt_natCast, BitVec.toNat_ofNat, Nat.mod_eq_of_lt hn]
theorem ex_orN {x y : Operand} {t t' : TypeId} {k : IntKind} {m n : Nat} {x' z : Int} (hx : σ.ev x = some (.int k x')) (hy : σ.ev y = some (.int k z)) (hm : x' = ((m : Nat) : Int)) (hz : z = ((n : Nat) : Int)) (hk : k.signed = false) (h1 : m < 2 ^ k.bits) (h2 : n < 2 ^ k.bits) :
    Ex P σ ⟨dst, .binOp .or t x y t', T, pos, after, g⟩ w (.int k ((m ||| n : Nat) : Int)) w := fun ρ h => by
  subst hm hz
  obtain ⟨e1, e2⟩ := bitsBack hk h1 h2
  simp only [execOp, h x _ hx, h y _ hy]
  have hr := wrapU hk (m ||| n)
  rw [Nat.mod_eq_of_lt (Nat.or_lt_two_pow h1 h2)] at hr
  simp only [eqGuard, Go.binOp, Op.intBits, Sem.run_bind, Sem.run_pure, Result.andThen_ok, BitVec.toNat_or, e1, e2, hr]
  simp
theorem ex_conv {x : Operand} {t t' : TypeId} {k k' : IntKind} {n : Int} (hx : σ.ev x = some (.int k n)) (ht : P.underlying t = some (.int k)) (ht' : P.underlying t' = some (.int k')) :
    Ex P σ ⟨dst, .convert t t' x, T, pos, after, g⟩ w (.int k' (k'.wrap n)) w := fun ρ h => by
  simp [execOp, h x _ hx, convert, run_underlying ht, run_underlying ht', Conv.intToInt]
theorem iM {x : Operand} {t t' : TypeId} {k k' : IntKind} {n : Int} (hx : σ.ev x = some (.int k n)) (ht : P.underlying t = some (.int k)) (ht' : P.underlying t' = some (.int k')) (h1 : k'.min ≤ n) (h2 : n ≤ k'.max) :
    Ex P σ ⟨dst, .convert t t' x, T, pos, after, g⟩ w (.int k' n) w := by
  have := ex_conv (w := w) (dst := dst) (T := T) (pos := pos) (after := after) (g := g) hx ht ht'
  rwa [AB h1 h2] at this
theorem ex_remN {x y : Operand} {t t' : TypeId} {k : IntKind} {m n : Nat} {x' z : Int} (hx : σ.ev x = some (.int k x')) (hy : σ.ev y = some (.int k z)) (hm : x' = ((m : Nat) : Int)) (hz : z = ((n : Nat) : Int)) (hn : 0 < n) :
    Ex P σ ⟨dst, .binOp .rem t x y t', T, pos, after, g⟩ w (.int k ((m % n : Nat) : Int)) w := fun ρ h => by
  subst hm hz
  simp only [execOp, h x _ hx, h y _ hy]
  simp only [eqGuard, Go.binOp, Op.intDiv, Sem.run_bind, Sem.run_pure, Result.andThen_ok]
  have : (Int.tmod (m : Int) n) = ((m % n : Nat) : Int) := by rw [Int.tmod_eq_emod_of_nonneg (by omega)]; rfl
  simp [this, show ¬ (n : Nat) = 0 by omega]
end
def qJ (ds : List Nat) : ByteArray := ⟨(ds.map UInt8.ofNat).toArray⟩
theorem PV {a b : List Nat} (ha : ∀ x, x ∈ a → x < 256) (hb : ∀ x, x ∈ b → x < 256) : qJ a = qJ b ↔ a = b := by
  constructor
  · intro h
    have h1 : a.map UInt8.ofNat = b.map UInt8.ofNat := by
      have := congrArg (fun x : ByteArray => x.data.toList) h
      simpa [qJ] using this
    clear h
    induction a generalizing b with
    | nil => cases b with | nil => rfl | cons _ _ => simp at h1
    | cons x a ih =>
      cases b with
      | nil => simp at h1
      | cons y b =>
        simp only [List.map_cons, List.cons.injEq] at h1
        have hx := ha x (by simp)
        have hy := hb y (by simp)
        have h2 := congrArg UInt8.toNat h1.1
        simp [UInt8.toNat_ofNat'] at h2
        rw [ih (fun z hz => ha z (List.mem_cons_of_mem _ hz)) (fun z hz => hb z (List.mem_cons_of_mem _ hz)) h1.2]
        congr 1
        omega
  · intro h; rw [h]
section
variable {P : Program} {σ : Env} {w : World} {dst : Option Nat} {T : TypeId} {pos : String} {after : Array Edge} {g : Option (Nat × Bool)}
theorem CX {x : Operand} {lo hi : Option Operand} {t e : TypeId} {sz a len c} {l h : Nat} {lv hv : Option Int} (hx : σ.ev x = some (.slice a len c)) (ht : P.underlying t = some (.slice e)) (hs : eQ P e = some sz)
    (hlo : (lo.map σ.ev) = lv.map (fun n => some (Value.int .i64 n))) (hhi : (hi.map σ.ev) = hv.map (fun n => some (Value.int .i64 n))) (hl : lv.getD 0 = (l : Nat)) (hh : hv.getD len = (h : Nat)) (hlh : l ≤ h) (hhc : h ≤ c) (hlen : len ≤ c) :
    Ex P σ ⟨dst, .slice t x lo hi none, T, pos, after, g⟩ w (.slice (if c = l then a else a.map (·.add (l * sz))) (h - l) (c - l)) w := fun ρ hρ => by
  obtain ⟨inf, hin, hsz⟩ := Option.map_eq_some_iff.1 hs
  have hL : lo.map ρ = lv.map (fun n => Value.int .i64 n) := by
    cases lo <;> cases lv <;> simp_all
    exact hρ _ _ hlo
  have hH : hi.map ρ = hv.map (fun n => Value.int .i64 n) := by
    cases hi <;> cases hv <;> simp_all
    exact hρ _ _ hhi
  have hb : (Instr.sliceBounds true len c (lo.map ρ) (hi.map ρ) none).run P w = .ok (l, h, c) w := by
    rw [hL, hH]
    cases lv with
    | none =>
      have : l = 0 := by simpa using hl.symm
      subst this
      cases hv with
      | none => have : h = len := by simp at hh; omega
                subst this; simp [Instr.sliceBounds]
      | some n =>
        have : n = (h : Int) := by simpa using hh
        subst this
        simp [Instr.sliceBounds, Instr.sliceBound, asIntOf, hhc]
    | some m =>
      have : m = (l : Int) := by simpa using hl
      subst this
      cases hv with
      | none => have : h = len := by simp at hh; omega
                subst this; simp [Instr.sliceBounds, Instr.sliceBound, asIntOf, hlh]
      | some n =>
        have : n = (h : Int) := by simpa using hh
        subst this
        simp [Instr.sliceBounds, Instr.sliceBound, asIntOf, hhc, hlh]
  simp only [execOp, hρ x _ hx, Instr.sliceAt, run_underlying ht, Sem.run_bind, Result.andThen_ok, Instr.slice, hb]
  simp [sizeOf, typeInfo, hin, hsz, hb]
end
section
variable {P : Program} {N : NN} {R : gX} {σ : Env} {w : World} {ops : Array Oper} {rest : List Oper} {d : Nat} {T : TypeId} {pos : String} {after : Array Edge}
def NV (P : Program) (t : TypeId) : Option (TypeId × Nat × Nat × Array Value) :=
  match P.underlying t with
  | some (.slice e) => match P.info? e with
    | some i => match i.zero with
      | some z => if z.cells.size = i.size then some (e, i.size, i.bytes, z.cells) else none
      | none => none
    | none => none
  | _ => none
def sV (z : Array Value) (n : Nat) : List Value := (List.replicate n z.toList).flatten
theorem FH (z : Array Value) (n : Nat) : (sV z n).length = n * z.size := by simp [sV]
theorem EI {z : Array Value} {n k : Nat} (hz : 0 < z.size) (h : k < n) : (madeCells z n)[k]? = some (z[k % z.size]'(Nat.mod_lt _ hz)) := by
  simp [madeCells, h, Nat.mod_lt _ hz]
theorem FI {z : Array Value} : ∀ {n k : Nat} (hz : 0 < z.size), k < n * z.size → (sV z n)[k]? = some (z[k % z.size]'(Nat.mod_lt _ hz))
  | 0, k, _, h => by simp at h
  | n + 1, k, hz, h => by
    have e : sV z (n + 1) = z.toList ++ sV z n := by simp [sV, List.replicate_succ]
    rw [e, List.getElem?_append]
    split
    · rename_i hk
      simp at hk
      simp [hk, Nat.mod_eq_of_lt hk]
    · rename_i hk
      simp at hk
      rw [Nat.add_mul] at h
      rw [FI hz (by simp; omega)]
      simp only [Array.length_toList, Option.some.injEq]
      congr 1
      rw [Nat.mod_eq_sub_mod hk]
theorem zW {z : Array Value} {n l : Nat} (hz : 0 < z.size) (hl : l ≤ n) : ((madeCells z (n * z.size)).toList.take (l * z.size)) = sV z l := by
  have hle : l * z.size ≤ n * z.size := Nat.mul_le_mul_right _ hl
  apply List.ext_getElem?
  intro k
  rw [List.getElem?_take]
  split
  · rename_i hk
    rw [FI hz hk]
    have := EI (z := z) (n := n * z.size) (k := k) hz (by omega)
    simpa using this
  · rename_i hk
    rw [List.getElem?_eq_none]
    rw [FH]; omega
theorem HX {t e : TypeId} {x y : Operand} {kl kc : IntKind} {lv cv : Int} {sz bytes len c : Nat} {z : Array Value} (hd : Nat.blt d N.1 = true) (hx : σ.ev x = some (.int kl lv)) (hy : σ.ev y = some (.int kc cv)) (hf : NV P t = some (e, sz, bytes, z))
    (hlv : lv = (len : Nat)) (hcv : cv = (c : Nat)) (hlc : len ≤ c) (hz : 0 < z.size) (hb : bytes * c ≤ 140737488355328) (hcm : c ≤ 140737488355328)
    (h : ∀ b w', OwnS w' e sz (some ⟨b, 0, none⟩) len c (sV z len) (some b) → w.heap.size = b → Evo [] w w' → WL P N ops R rest ((d, .slice (some ⟨b, 0, none⟩) len c) :: σ) w') :
    WL P N ops R (⟨some d, .makeSlice t x y, T, pos, after, none⟩ :: rest) σ w := by
  subst hlv hcv
  simp only [NV] at hf
  split at hf <;> try cases hf
  rename_i e' ht
  split at hf <;> try cases hf
  rename_i i hi
  split at hf <;> try cases hf
  rename_i z' hz'
  split at hf <;> try cases hf
  rename_i hsz
  have hbb : (i.bytes : Int) * (c : Int) ≤ 281474976710656 := by
    have : ((i.bytes * c : Nat) : Int) ≤ 281474976710656 := by omega
    rwa [Int.natCast_mul] at this
  have hr := run_make (P := P) w t _ i _ ht hi hz' kl kc len c (by omega) (by omega) hbb (by omega)
  simp only [Int.toNat_natCast] at hr
  refine fH (w' := w.alloc (.cells (madeCells z'.cells (c * i.size)) e)) hd (fun ρ ha => ?_) (h w.heap.size _ ⟨by rw [FH, hsz], .inr ⟨w.heap.size, c, _, rfl, rfl, heap_alloc_new w _, hlc, by unfold maxLen; omega, size_madeCells _ _, ?_⟩⟩ rfl (lP w _))
  · simp [execOp, ha x _ hx, ha y _ hy, hr]
  · rw [← hsz]; exact zW hz hlc
end
def wG (xs : List Value) (o : Nat) (vs : List Value) : List Value := xs.take o ++ vs ++ xs.drop (o + vs.length)
theorem XU {xs vs : List Value} {o : Nat} (h : o + vs.length ≤ xs.length) : (wG xs o vs).length = xs.length := by
  simp only [wG, List.length_append, List.length_take, List.length_drop]; omega
theorem SB {xs vs : List Value} {o m : Nat} (h : o + vs.length ≤ m) (hm : m ≤ xs.length) : (wG xs o vs).take m = wG (xs.take m) o vs := by
  simp only [wG]
  have h1 : (xs.take o ++ vs).length = o + vs.length := by simp only [List.length_append, List.length_take]; omega
  rw [List.take_append, h1, List.take_of_length_le (by omega), List.take_take, Nat.min_eq_left (by omega), List.drop_take]
theorem OwnS.put {w w' : World} {e : TypeId} {sz : Nat} {a : Option Addr} {n c : Nat} {xs vs : List Value} {ob : Option Nat} {g : Nat} {cur : Array Value} {U : TypeId} {o k : Nat} (h : OwnS w e sz a n c xs ob) (hg : ob = some g) (hb : w.heap[g]? = some (.cells cur U (0, 0))) (ho : o = k * sz) (hk : k < n) (hv : vs.length = sz)
    (hb' : w'.heap[g]? = some (.cells (cur.toList.take o ++ vs ++ cur.toList.drop (o + sz)).toArray U (0, 0))) : OwnS w' e sz a n c (wG xs o vs) ob := by
  subst hg ho
  have hl := h.1
  have hle : k * sz + sz ≤ n * sz := by have : (k + 1) * sz ≤ n * sz := Nat.mul_le_mul_right _ hk; rw [Nat.add_mul] at this; omega
  have hxl : xs.length = n * sz := hl
  refine ⟨by rw [XU (by rw [hv]; omega)]; exact hl, ?_⟩
  rcases h.2 with ⟨_, _, h2⟩ | ⟨g', cap, cur', hg, hv2, hbb, hn, hc, hs, ht⟩
  · cases h2
  · cases hg
    rw [hb] at hbb
    cases hbb
    have hncs : n * sz ≤ cap * sz := Nat.mul_le_mul_right _ hn
    refine .inr ⟨g, cap, _, rfl, hv2, hb', hn, hc, ?_, ?_⟩
    · simp only [List.size_toArray, List.length_append, List.length_take, List.length_drop, Array.length_toList]; omega
    · have := SB (xs := cur.toList) (vs := vs) (o := k * sz) (m := n * sz) (by rw [hv]; omega) (by simp only [Array.length_toList]; omega)
      rw [ht] at this
      rw [← this]
      simp only [wG, hv]
structure Sl where
  a : Option Addr
  n : Nat
  c : Nat
  ob : Option Nat
section
variable {w w' : World} {e : TypeId} {sz N : Nat} {S : Nat → Sl} {xs : Nat → List Value} {X : List Nat} {i : Nat}
theorem BW {a : Option Addr} {n c : Nat} {ys : List Value} {ob : Option Nat} (h : OwnS w e sz a n c ys ob) : a = ob.map fun g => ⟨g, 0, none⟩ := by
  rcases h.2 with ⟨h1, _, h3⟩ | ⟨g, cap, cur, hg, hv, _⟩
  · cases h1; subst h3; rfl
  · cases hv; subst hg; rfl
end
abbrev rep (m : Nat) (mk : List Value) : List Value := (List.replicate m mk).flatten
section
variable {w w' : World} {e : TypeId} {sz N : Nat} {s t : Nat → Sl} {mk : Nat → List Value} {X : List Nat} {i : Nat}
end
def sb (s : ByteArray) (n : Nat) : Nat := (s.get! n).toNat
theorem jN (s : ByteArray) (n : Nat) : sb s n < 256 := (s.get! n).toNat_lt
theorem tH (s : ByteArray) (n : Nat) (h : n < s.size) : sb s n = (s[n]'h).toNat := by
  unfold sb
  simp [ByteArray.get!, getElem!_pos, h]
  rfl
section
variable {P : Program} {σ : Env} {w : World} {dst : Option Nat} {T : TypeId} {pos : String} {after : Array Edge} {g : Option (Nat × Bool)}
theorem eD {x i : Operand} {t : TypeId} {k : IntKind} {s : ByteArray} {z : Int} {n : Nat} (hx : σ.ev x = some (.string s)) (hi : σ.ev i = some (.int k z)) (ht : P.underlying t = some .string) (hz : z = (n : Int)) (hn : n < s.size) :
    Ex P σ ⟨dst, .index t x i, T, pos, after, g⟩ w (.int .u8 (sb s n : Nat)) w := fun ρ h => by
  subst hz
  have hc : 0 ≤ (n : Int) ∧ (n : Int) < s.size := ⟨by omega, by omega⟩
  have := run_index_string (P := P) w t s k n ht
  rw [dif_pos hc] at this
  simp only [execOp, h x _ hx, h i _ hi, Sem.run_bind, this, Result.andThen_ok, Sem.run_pure, tH s n hn]
  rfl
theorem AP {x lo hi : Operand} {t : TypeId} {s : ByteArray} {lv hv : Int} {l h : Nat} (hx : σ.ev x = some (.string s)) (hlo : σ.ev lo = some (.int .i64 lv)) (hhi : σ.ev hi = some (.int .i64 hv)) (ht : P.underlying t = some .string) (hl : lv = (l : Int)) (hh : hv = (h : Int)) (hlh : l ≤ h) (hhc : h ≤ s.size) :
    Ex P σ ⟨dst, .slice t x (some lo) (some hi) none, T, pos, after, g⟩ w (.string (s.extract l h)) w := fun ρ hρ => by
  subst hl hh
  have := run_slice_string (P := P) w t s .i64 .i64 (l : Int) (h : Int) ht (by omega) (by omega) (by omega)
  simp only [execOp, hρ x _ hx, Option.map_some, Option.map_none, hρ lo _ hlo, hρ hi _ hhi, Instr.sliceAt, run_underlying ht, Sem.run_bind, Result.andThen_ok, this, Int.toNat_natCast, Sem.run_pure]
theorem jM {x y : Operand} {ats : Array TypeId} {k k' : IntKind} {m n : Int} (hx : σ.ev x = some (.int k m)) (hy : σ.ev y = some (.int k' n)) :
    Ex P σ ⟨dst, .call ⟨.builtin .min, #[x, y], ats⟩, T, pos, after, g⟩ w (.int k (if n < m then n else m)) w := fun ρ h => by
  simp [execOp, resolve, h x _ hx, h y _ hy, invoke, builtin, run_min_int2]
end
section
variable {P : Program} {N : NN} {R : gX} {σ : Env} {w : World} {ops : Array Oper} {rest : List Oper} {d : Nat} {T : TypeId} {pos : String} {after : Array Edge}
theorem xV {x : Operand} {t : TypeId} {s : ByteArray} (hd : Nat.blt d N.1 = true) (hx : σ.ev x = some (.string s)) (ht : P.underlying t = some .string)
    (h : ∀ b w', w'.heap[b]? = some (.stringIter s 0) → w.heap.size = b → Evo [] w w' → WL P N ops R rest ((d, .pointer (some ⟨b, 0, none⟩)) :: σ) w') :
    WL P N ops R (⟨some d, .range t x, T, pos, after, none⟩ :: rest) σ w := by
  refine fH (w' := w.alloc (.stringIter s 0)) hd (fun ρ ha => ?_) (h _ _ (oR w _) rfl (lP w _))
  simp only [execOp, ha x _ hx, Sem.run_bind, run_range_string w t s ht, Result.andThen_ok, Sem.run_pure]
  rfl
theorem pE (w : World) (b : Nat) (o : Obj) : Evo [b] w { w with heap := w.heap.setIfInBounds b o } :=
  ⟨rfl, rfl, rfl, by simp, fun k _ hx => by
    have : b ≠ k := fun e => hx (by simp [e])
    simp [Array.getElem?_setIfInBounds_ne this]⟩
theorem AZ {x : Operand} {s : ByteArray} {b p : Nat} (hd : Nat.blt d N.1 = true) (hx : σ.ev x = some (.pointer (some ⟨b, 0, none⟩))) (hb : w.heap[b]? = some (.stringIter s p)) (hp : p < s.size)
    (h : ∀ w', w'.heap[b]? = some (.stringIter s (p + (Utf8.decode s p).2)) → Evo [b] w w' → WL P N ops R rest ((d, .tuple #[.bool true, .int .i64 (p : Nat), .int .i32 ((Utf8.decode s p).1 : Nat)]) :: σ) w') :
    WL P N ops R (⟨some d, .next x true, T, pos, after, none⟩ :: rest) σ w := by
  have hlt : b < w.heap.size := dK hb
  refine fH (w' := { w with heap := w.heap.setIfInBounds b (.stringIter s (p + (Utf8.decode s p).2)) }) hd (fun ρ ha => ?_) (h _ (by simp [hlt]) (pE w b _))
  simp only [execOp, ha x _ hx, Instr.next, getObj, setObj, Sem.run_bind, Sem.run, hb, Result.andThen, hp, if_true]
  simp [goInt, Sem.run]
theorem MJ {x : Operand} {s : ByteArray} {b p : Nat} (hd : Nat.blt d N.1 = true) (hx : σ.ev x = some (.pointer (some ⟨b, 0, none⟩))) (hb : w.heap[b]? = some (.stringIter s p)) (hp : ¬ p < s.size)
    (h : WL P N ops R rest ((d, .tuple #[.bool false]) :: σ) w) :
    WL P N ops R (⟨some d, .next x true, T, pos, after, none⟩ :: rest) σ w := by
  refine fH (w' := w) hd (fun ρ ha => ?_) h
  simp only [execOp, ha x _ hx, Instr.next, getObj, setObj, Sem.run_bind, Sem.run, hb, Result.andThen, hp, if_false]
  simp [goInt, Sem.run]
end
section
variable {P : Program} {σ : Env} {w : World} {dst : Option Nat} {T : TypeId} {pos : String} {after : Array Edge} {g : Option (Nat × Bool)}
theorem OwnS.pop {e : TypeId} {sz m c : Nat} {a : Option Addr} {xs r : List Value} {ob : Option Nat} (h : OwnS w e sz a (m + 1) c (xs ++ r) ob) (hr : r.length = sz) : OwnS w e sz a m c xs ob := by
  have h1 := h.1
  rw [List.length_append, hr, Nat.add_mul] at h1
  have h2 : xs.length = m * sz := by omega
  refine ⟨h2, ?_⟩
  rcases h.2 with ⟨_, h3, _⟩ | ⟨g, cap, cur, hg, hv, hb, hn, hc, hs, ht⟩
  · omega
  · cases hv
    refine .inr ⟨g, c, cur, hg, rfl, hb, by omega, hc, hs, ?_⟩
    have h4 := congrArg (List.take (m * sz)) ht
    rw [List.take_take, Nat.min_eq_left (Nat.mul_le_mul_right _ (by omega)), ← h2, List.take_left] at h4
    rw [← h2]; exact h4
theorem OwnS.top {e : TypeId} {sz m c : Nat} {a : Option Addr} {xs r : List Value} {ob : Option Nat} (h : OwnS w e sz a (m + 1) c (xs ++ r) ob) (hr : r.length = sz) : ∃ g, ob = some g ∧ a = some ⟨g, 0, none⟩ ∧ CellsAt w g (0 + m * sz) r := by
  obtain ⟨g, hg, ha, hc⟩ := h.cells (by omega)
  refine ⟨g, hg, ha, fun j v hj => ?_⟩
  have h2 := h.pop hr
  have := hc (m * sz + j) v (by rw [List.getElem?_append_right (by rw [h2.1]; omega), h2.1]; simpa using hj)
  rw [show 0 + (m * sz + j) = 0 + m * sz + j by omega] at this
  exact this
theorem OwnS.get1 {e : TypeId} {n c k b : Nat} {xs : List Value} {ob : Option Nat} {v : Value} (h : OwnS w e 1 (some ⟨b, 0, none⟩) n c xs ob) (hv : xs[k]? = some v) : w.cell? ⟨b, 0 + k * 1, none⟩ = some v := by
  have hk := (List.getElem?_eq_some_iff.1 hv).1
  rw [h.1] at hk
  obtain ⟨g, _, ha, hc⟩ := h.cells (by omega)
  cases ha
  have := hc k v hv
  rw [show 0 + k * 1 = 0 + k by omega]
  exact this
theorem OQ {x hi : Operand} {t e e' : TypeId} {sz sz' len c h : Nat} {a : Option Addr} {xs : List Value} {ob : Option Nat} {w1 : World} {hv : Int} (hO : OwnS w1 e' sz' a len c xs ob) (hx : σ.ev x = some (.slice a len c)) (hhi : σ.ev hi = some (.int .i64 hv)) (ht : P.underlying t = some (.slice e)) (hs : eQ P e = some sz)
    (hh : hv = (h : Int)) (hhc : h ≤ c) : Ex P σ ⟨dst, .slice t x none (some hi) none, T, pos, after, g⟩ w (.slice a h c) w := by
  have h1 := CX (P := P) (σ := σ) (w := w) (dst := dst) (T := T) (pos := pos) (after := after) (g := g) (lo := none) (hi := some hi) (l := 0) (h := h) (lv := none) (hv := some hv) hx ht hs rfl (by simp [hhi]) rfl (by simpa using hh) (Nat.zero_le _) hhc hO.le
  have ha := BW hO
  have e1 : (if c = 0 then a else a.map (·.add (0 * sz))) = a := by
    subst ha
    split
    · rfl
    · cases ob with
      | none => rfl
      | some g => simp [Addr.add]
  rw [e1] at h1
  exact h1
end
def RS (R : gX) : gX
  | .goto _, _, _, _ => False
  | .normal, N, σ, w => R .normal N σ w
  | .exit i, N, σ, w => R (.exit i) N σ w
  | .ret, N, σ, w => R .ret N σ w
  | .panic c, N, σ, w => R (.panic c) N σ w
  | .outgrown, N, σ, w => R .outgrown N σ w
section
variable {P : Program} {N : NN} {R : gX} {σ : Env} {w : World}
theorem cw_scope {c : Code} (h : CW P N c (RS R) σ w) : CW P N (.scope c) R σ w := by
  intro a ha
  refine wp_scope_straight (wp_mono (h a ha) ?_)
  intro e a' w' hq
  cases e with
  | goto l => obtain ⟨_, _, _, hk⟩ := hq; exact hk
  | normal => exact hq
  | exit i => exact hq
  | ret => exact hq
  | panic c => exact hq
  | outgrown => exact hq
theorem YF (h : R .normal N σ w) : RS R .normal N σ w := h
theorem xZ (h : R .ret N σ w) : RS R .ret N σ w := h
end
def bQ (s : ByteArray) (n : Nat) : Int × Nat :=
  if n < s.size ∧ ¬ ((Utf8.decode s n).1 = 65533 ∧ (Utf8.decode s n).2 = 1) then (((Utf8.decode s n).1 : Nat), (Utf8.decode s n).2) else (-1, 0)
section
variable {P : Program} {N : NN} {ops : Array Oper} {R : gX} {rest : List Oper} {σ : Env} {w w' : World} {d : Nat} {op : Op} {dst : Option Nat} {T : TypeId} {pos : String} {after : Array Edge} {g : Option (Nat × Bool)}
theorem UF {r : Value} (hx : Ex P σ ⟨none, op, T, pos, after, none⟩ w r w') (h : WL P N ops R rest σ w') :
    WL P N ops R (⟨none, op, T, pos, after, none⟩ :: rest) σ w := fun a ha => wpList_plain rfl fun K hK => by
  unfold Oper.wp
  rw [hx a.eval ha.agrees]
  exact hK _ _ (h _ ha)
theorem TO {x lo : Operand} {t e e' : TypeId} {sz sz' len c l : Nat} {a : Option Addr} {xs : List Value} {ob : Option Nat} {w1 : World} {lv : Int} (hO : OwnS w1 e' sz' a len c xs ob) (hx : σ.ev x = some (.slice a len c)) (hlo : σ.ev lo = some (.int .i64 lv)) (ht : P.underlying t = some (.slice e)) (hs : eQ P e = some sz)
    (hl : lv = (l : Int)) (hle : l ≤ len) : Ex P σ ⟨dst, .slice t x (some lo) none none, T, pos, after, g⟩ w (.slice (if c = l then a else a.map (·.add (l * sz))) (len - l) (c - l)) w :=
  CX (P := P) (σ := σ) (w := w) (dst := dst) (T := T) (pos := pos) (after := after) (g := g) (lo := some lo) (hi := none) (l := l) (h := len) (lv := some lv) (hv := none) hx ht hs (by simp [hlo]) rfl (by simpa using hl) rfl hle hO.le hO.le
theorem TN {x hi : Operand} {t e : TypeId} {sz len c h : Nat} {a : Option Addr} {hv : Int} (hx : σ.ev x = some (.slice a len c)) (hhi : σ.ev hi = some (.int .i64 hv)) (ht : P.underlying t = some (.slice e)) (hs : eQ P e = some sz)
    (hh : hv = (h : Int)) (hhc : h ≤ c) (hlen : len ≤ c) : Ex P σ ⟨dst, .slice t x none (some hi) none, T, pos, after, g⟩ w (.slice (if c = 0 then a else a.map (·.add (0 * sz))) h c) w :=
  CX (P := P) (σ := σ) (w := w) (dst := dst) (T := T) (pos := pos) (after := after) (g := g) (lo := none) (hi := some hi) (l := 0) (h := h) (lv := none) (hv := some hv) hx ht hs rfl (by simp [hhi]) rfl (by simpa using hh) (Nat.zero_le _) hhc hlen
theorem EH {v u : Value} {m : Nat} (h : u ∈ (Builtin.zeroCells #[v] m).toList) : u = v := by
  simp [Builtin.zeroCells, Nat.mod_one] at h
  obtain ⟨k, _, rfl⟩ := h
  rfl
theorem ZY {x : Operand} {ats : Array TypeId} {t e : TypeId} {n c i : Nat} {a : Option Addr} {xs : List Value} {ob : Option Nat} {z : Value} (hO : OwnS w e 1 a n c xs ob) (hi : i ≤ n)
    (hx : σ.ev x = some (.slice (if c = i then a else a.map (·.add (i * 1))) (n - i) (c - i))) (hats : ats = #[t]) (ht : P.underlying t = some (.slice e)) (hz : kF P e = some #[z]) (h1 : z.oneCell' = true)
    (h : ∀ w', OwnS w' e 1 a i c (xs.take i) ob → Evo ob.toList w w' → WL P N ops R rest σ w') :
    WL P N ops R (⟨none, .call ⟨.builtin .clear, #[x], ats⟩, T, pos, after, none⟩ :: rest) σ w := by
  subst hats
  have hlen := hO.length
  by_cases hn : n - i = 0
  · obtain rfl : i = n := by omega
    refine UF (w' := w) (r := .tuple #[]) (fun ρ ha => ?_) (h w (by rw [List.take_of_length_le (by omega)]; exact hO) (Evo.refl _ _))
    rw [Nat.sub_self] at hx
    have := ha x _ hx
    simp only [execOp, resolve, Sem.run_bind, Sem.run_pure, Result.andThen_ok]
    generalize (if c = i then a else a.map (·.add (i * 1))) = q at this
    cases q <;> simp [execOp, resolve, this, invoke, builtin, Builtin.clear_, run_underlying ht]
  · obtain ⟨gb, cur, rfl, rfl, hb, hs, ht2⟩ := hO.at (by omega)
    have hle := hO.le
    rw [if_neg (by omega)] at hx
    have hadd : (⟨gb, 0, none⟩ : Addr).add (i * 1) = ⟨gb, i, none⟩ := by unfold Addr.add; split <;> simp_all
    simp only [Option.map_some, hadd] at hx
    obtain ⟨v, hv, hvz⟩ := Option.map_eq_some_iff.1 hz
    obtain ⟨ti, hti, htz⟩ := Option.bind_eq_some_iff.1 hv
    have hsz : (Builtin.zeroCells #[z] (n - i)).toList.length = n - i := by rw [Array.length_toList, size_zeroCells]; simp
    obtain ⟨w', hr, hb', he⟩ := oT (P := P) gb e (Builtin.zeroCells #[z] (n - i)).toList i 0 cur w hb (by rw [hsz]; omega) (fun u hu => by rw [EH hu]; exact h1)
    refine UF (w' := w') (r := .tuple #[]) (fun ρ ha => ?_) (h w' ⟨by simp; omega, .inr ⟨gb, c, _, rfl, rfl, hb', by omega, ?_, ?_, ?_⟩⟩ he)
    · have := ha x _ hx
      cases hm : n - i with
      | zero => omega
      | succ m =>
        rw [hm] at this hr
        simp [execOp, resolve, this, invoke, builtin, Builtin.clear_, run_underlying ht, zeroValue, typeInfo, hti, htz, hvz, hr]
    · rcases hO.2 with ⟨h2, _⟩ | ⟨_, _, _, _, h2, _, _, hc, _⟩
      · cases h2
      · cases h2; exact hc
    · simp only [List.size_toArray, List.length_append, List.length_take, List.length_drop, hsz, Array.length_toList]
      omega
    · rw [← ht2]
      simp only [Nat.add_zero, Nat.mul_one, List.append_assoc]
      rw [List.take_left' (by simp; omega), List.take_take, Nat.min_eq_left (by omega)]
end
end Go.W
namespace Go.W
open Go.RowKit
abbrev vU (D : Nat) : Deferred := { target := .collected D, args := #[] }
section
variable {P : Program} {σ : Env} {w : World}
end
section
variable {P : Program} {N : NN} {R : gX} {σ : Env} {w : World}
end
section
variable {P : Program} {N : NN} {R : gX} {σ : Env} {w : World} {l n : Nat}
end
section
variable {P : Program} {N : NN} {R : gX} {σ : Env} {w w' : World} {ops : Array Oper} {rest : List Oper} {n d : Nat} {op : Op} {T : TypeId} {pos : String} {after : Array Edge}
end
theorem JK {P : Program} {σ : Env} {w : World} {dst : Option Nat} {T : TypeId} {pos : String} {after : Array Edge} {g : Option (Nat × Bool)} {x y : Operand} {ats : Array TypeId} {k k' : IntKind} {m n : Int} (hx : σ.ev x = some (.int k m)) (hy : σ.ev y = some (.int k' n)) :
    Ex P σ ⟨dst, .call ⟨.builtin .max, #[x, y], ats⟩, T, pos, after, g⟩ w (.int k (if m < n then n else m)) w := fun ρ h => by
  simp [execOp, resolve, h x _ hx, h y _ hy, invoke, builtin, run_max_int2]
abbrev KV := List (ByteArray × Value)
def MapAt (w : World) (b : Nat) (kvs : KV) : Prop := ∃ es : Array MapEntry, w.heap[b]? = some (.map es es.size) ∧ es.toList.map (fun e => (e.key, e.val)) = kvs.map (fun kv => (Value.string kv.1, kv.2)) ∧ ∀ i (h : i < es.size), es[i].born = i
theorem MapAt.evo {X : List Nat} {w w' : World} {b : Nat} {kvs : KV} (h : MapAt w b kvs) (he : Evo X w w') (hx : b ∉ X) : MapAt w' b kvs := by
  obtain ⟨es, h1, h2⟩ := h
  exact ⟨es, he.blk h1 hx, h2⟩
theorem MapAt.evo0 {w w' : World} {b : Nat} {kvs : KV} (h : MapAt w b kvs) (he : Evo [] w w') : MapAt w' b kvs := h.evo he (by simp)
theorem MapAt.lt {w : World} {b : Nat} {kvs : KV} (h : MapAt w b kvs) : b < w.heap.size := by obtain ⟨es, h1, _⟩ := h; exact dK h1
theorem Lt.map {w : World} {b : Nat} {kvs : KV} (h : MapAt w b kvs) : Lt w (some b) := fun g hg => by cases hg; exact h.lt
def gT : KV → ByteArray → Option Value
  | [], _ => none
  | kv :: r, s => if kv.1 = s then some kv.2 else gT r s
def yG : KV → ByteArray → Value → KV
  | [], s, v => [(s, v)]
  | kv :: r, s, v => if kv.1 = s then (s, v) :: r else kv :: yG r s v
def uX : KV → ByteArray → Option Nat
  | [], _ => none
  | kv :: r, s => if kv.1 = s then some 0 else (uX r s).map (· + 1)
theorem CK : ∀ {kvs : KV} {s : ByteArray} {i : Nat}, uX kvs s = some i → ∃ v, kvs[i]? = some (s, v) ∧ gT kvs s = some v
  | kv :: r, s, i, h => by
    simp only [uX] at h
    simp only [gT]
    split at h
    · rename_i hk; cases h; rw [if_pos hk]; exact ⟨kv.2, by rw [← hk]; rfl, rfl⟩
    · rename_i hk
      rw [if_neg hk]
      obtain ⟨j, hj, rfl⟩ := Option.map_eq_some_iff.1 h
      obtain ⟨v, h1, h2⟩ := CK hj
      exact ⟨v, h1, h2⟩
theorem GW : ∀ {kvs : KV} {s : ByteArray}, uX kvs s = none → gT kvs s = none
  | [], _, _ => rfl
  | kv :: r, s, h => by
    simp only [uX] at h
    simp only [gT]
    split at h
    · cases h
    · rename_i hk
      rw [if_neg hk]
      exact GW (by simpa using h)
theorem GN : ∀ {kvs : KV} {s : ByteArray} {v : Value} {i : Nat}, uX kvs s = some i → yG kvs s v = kvs.set i (s, v)
  | kv :: r, s, v, i, h => by
    simp only [uX] at h
    simp only [yG]
    split at h
    · rename_i hk; cases h; rw [if_pos hk]; rfl
    · rename_i hk
      rw [if_neg hk]
      obtain ⟨j, hj, rfl⟩ := Option.map_eq_some_iff.1 h
      rw [GN hj]; rfl
theorem GO : ∀ {kvs : KV} {s : ByteArray} {v : Value}, uX kvs s = none → yG kvs s v = kvs ++ [(s, v)]
  | [], _, _, _ => rfl
  | kv :: r, s, v, h => by
    simp only [uX] at h
    simp only [yG]
    split at h
    · cases h
    · rename_i hk
      rw [if_neg hk, GO (by simpa using h)]; rfl
theorem UA (a b : ByteArray) : (a == b) = decide (a = b) := by
  cases a with | mk x => cases b with | mk y =>
  show (x == y) = _
  by_cases h : x = y
  · subst h; simp
  · rw [decide_eq_false (by simpa using h)]; exact beq_eq_false_iff_ne.2 h
theorem zH (s : ByteArray) : ∀ (es : List MapEntry) (kvs : KV) (i : Nat), es.map (fun e => (e.key, e.val)) = kvs.map (fun kv => (Value.string kv.1, kv.2)) →
    Instr.findNow .string (.string s) es i = some ((uX kvs s).bind fun j => (gT kvs s).map fun v => (i + j, v))
  | [], kvs, i, h => by
    cases kvs with
    | nil => rfl
    | cons _ _ => simp at h
  | e :: es, kvs, i, h => by
    cases kvs with
    | nil => simp at h
    | cons kv kvs =>
      simp only [List.map_cons, List.cons.injEq, Prod.mk.injEq] at h
      simp only [Instr.findNow, h.1.1, Instr.sameNow, uX, gT]
      by_cases hk : kv.1 = s
      · have : (s == kv.1) = true := by rw [UA, hk]; exact decide_eq_true rfl
        rw [this]
        simp [hk, h.1.2]
      · have : (s == kv.1) = false := by rw [UA]; exact decide_eq_false (fun h => hk h.symm)
        rw [this]
        simp only [if_neg hk]
        rw [zH s es kvs (i + 1) h.2]
        cases hx : uX kvs s with
        | none => rfl
        | some j => simp only [Option.map_some, Option.bind_some, show i + 1 + j = i + (j + 1) by omega]
section
variable {P : Program} {N : NN} {ops : Array Oper} {R : gX} {rest : List Oper} {σ : Env} {w w' : World} {d : Nat} {dst : Option Nat} {T : TypeId} {pos : String} {after : Array Edge} {g : Option (Nat × Bool)}
theorem BA {t : TypeId} (hd : Nat.blt d N.1 = true) (h : ∀ b w', MapAt w' b [] → w.heap.size = b → Evo [] w w' → WL P N ops R rest ((d, .map (some b)) :: σ) w') :
    WL P N ops R (⟨some d, .makeMap t none, T, pos, after, none⟩ :: rest) σ w := by
  refine fH (r := .map (some w.heap.size)) (w' := w.alloc (.map #[] 0)) hd (fun ρ _ => ?_) (h _ _ ⟨#[], by simpa using oR w (.map #[] 0), rfl, fun i h => by simp at h⟩ rfl (lP w _))
  have hr : (Instr.makeMap t none).run P w = .ok (.map (some w.heap.size)) (w.alloc (.map #[] 0)) := rfl
  simp [execOp, hr]
theorem rM (t : TypeId) (s : ByteArray) (e : Bool) (n : Nat) (ht : P.underlying t = some .string) : (Instr.checkKey e (n + 1) t (.string s)).run P w = .ok () w := by
  simp [Instr.checkKey, run_underlying ht]
theorem tI {t : TypeId} {s : ByteArray} {es : List MapEntry} {kvs : KV} (ht : P.underlying t = some .string) (h : es.map (fun e => (e.key, e.val)) = kvs.map (fun kv => (Value.string kv.1, kv.2))) :
    (Instr.findKey t (.string s) es).run P w = .ok ((uX kvs s).bind fun j => (gT kvs s).map fun v => (j, v)) w := by
  simp [Instr.findKey, run_underlying ht, zH s es kvs 0 h]
def UE (P : Program) (t : TypeId) : Option Value := (P.info? t).bind (·.zero)
theorem HH {t k e : TypeId} {x i : Operand} {b : Nat} {kvs : KV} {s : ByteArray} {z : Value} (hx : σ.ev x = some (.map (some b))) (hi : σ.ev i = some (.string s)) (ht : P.underlying t = some (.map k e)) (hk : P.underlying k = some .string) (hz : UE P e = some z) (hm : MapAt w b kvs) :
    Ex P σ ⟨dst, .lookup t x i false, T, pos, after, g⟩ w ((gT kvs s).getD z) w := fun ρ ha => by
  obtain ⟨es, hb, hes, _⟩ := hm
  obtain ⟨inf, hin, hz'⟩ := Option.bind_eq_some_iff.1 hz
  have h1 := rM (P := P) (w := w) k s es.isEmpty 9999 hk
  have h2 := tI (P := P) (w := w) (s := s) hk hes
  simp only [execOp, ha x _ hx, ha i _ hi, Instr.lookup, Sem.run_bind, run_underlying ht, Result.andThen_ok, getObj, Sem.run, hb]
  cases hj : uX kvs s with
  | none =>
    rw [hj] at h2
    have h3 := GW hj
    simp only [Sem.run, Result.andThen, h1, h2, h3, Option.bind_none, Option.getD_none, zeroValue, typeInfo]
    simp [h1, h2, zeroValue, typeInfo, hin, hz']
  | some j =>
    rw [hj] at h2
    obtain ⟨v, h3, h4⟩ := CK hj
    rw [h4] at h2 ⊢
    simp [h1, h2]
theorem EG {t k e : TypeId} {x i : Operand} {s : ByteArray} {z : Value} (hx : σ.ev x = some (.map none)) (hi : σ.ev i = some (.string s)) (ht : P.underlying t = some (.map k e)) (hk : P.underlying k = some .string) (hz : UE P e = some z) :
    Ex P σ ⟨dst, .lookup t x i false, T, pos, after, g⟩ w z w := fun ρ ha => by
  obtain ⟨inf, hin, hz'⟩ := Option.bind_eq_some_iff.1 hz
  have h1 := rM (P := P) (w := w) k s true 9999 hk
  have h2 := tI (P := P) (w := w) (s := s) (es := []) (kvs := []) hk rfl
  simp only [execOp, ha x _ hx, ha i _ hi, Instr.lookup, Sem.run_bind, run_underlying ht, Result.andThen_ok]
  simp [h1, h2, uX, zeroValue, typeInfo, hin, hz']
theorem map_upd {es : Array MapEntry} {kvs : KV} {s : ByteArray} {v : Value} {j : Nat} (h : es.toList.map (fun e => (e.key, e.val)) = kvs.map (fun kv => (Value.string kv.1, kv.2))) :
    (es.modify j fun e => { e with key := .string s, val := v }).toList.map (fun e => (e.key, e.val)) = (kvs.set j (s, v)).map (fun kv => (Value.string kv.1, kv.2)) := by
  apply List.ext_getElem?
  intro k
  have hk := congrArg (fun l : List (Value × Value) => l[k]?) h
  simp only [List.getElem?_map] at hk ⊢
  rw [Array.getElem?_toList] at hk ⊢
  rw [Array.getElem?_modify, List.getElem?_set]
  have hl : es.size = kvs.length := by have := congrArg List.length h; simpa using this
  by_cases hjk : j = k
  · subst hjk
    rw [if_pos rfl, if_pos rfl]
    by_cases hlt : j < kvs.length
    · rw [if_pos hlt, Array.getElem?_eq_getElem (by omega)]; rfl
    · rw [if_neg hlt, Array.getElem?_eq_none (by omega)]; rfl
  · rw [if_neg hjk, if_neg hjk]; exact hk
theorem rK {t k e : TypeId} {m i x : Operand} {b : Nat} {kvs : KV} {s : ByteArray} {v : Value} (hm : σ.ev m = some (.map (some b))) (hi : σ.ev i = some (.string s)) (hx : σ.ev x = some v) (ht : P.underlying t = some (.map k e)) (hk : P.underlying k = some .string) (hM : MapAt w b kvs)
    (h : ∀ w', MapAt w' b (yG kvs s v) → Evo [b] w w' → WL P N ops R rest σ w') :
    WL P N ops R (⟨none, .mapUpdate t m i x, T, pos, after, none⟩ :: rest) σ w := by
  obtain ⟨es, hb, hes, hborn⟩ := hM
  have hlt := dK hb
  have hl : es.size = kvs.length := by have := congrArg List.length hes; simpa using this
  have h1 := rM (P := P) (w := w) k s false 9999 hk
  have h2 := tI (P := P) (w := w) (s := s) hk hes
  cases hj : uX kvs s with
  | none =>
    rw [hj] at h2
    refine HW (w' := { w with heap := w.heap.setIfInBounds b (.map (es.push { key := .string s, val := v, born := es.size }) (es.size + 1)) }) (fun ρ ha => ?_) (h _ ⟨es.push { key := .string s, val := v, born := es.size }, by simp [hlt], ?_, ?_⟩ (pE w b _))
    · simp only [execOp, ha m _ hm, ha i _ hi, ha x _ hx, Instr.mapUpdate, Sem.run_bind, run_underlying ht, Result.andThen_ok, getObj, Sem.run, hb]
      simp [Result.andThen, h1, h2, setObj, Sem.run, hb]
    · rw [GO hj]; simp [hes]
    · intro q hq
      rw [Array.getElem_push]
      split
      · rename_i hlt2; exact hborn q hlt2
      · simp at hq ⊢; omega
  | some j =>
    rw [hj] at h2
    obtain ⟨v0, h3, h4⟩ := CK hj
    have hjl : j < es.size := by have := (List.getElem?_eq_some_iff.1 h3).1; omega
    have hkey : es[j].key = .string s := by
      have := congrArg (fun l : List (Value × Value) => l[j]?) hes
      simp only [List.getElem?_map, h3, Array.getElem?_toList, Array.getElem?_eq_getElem hjl, Option.map_some, Option.some.injEq, Prod.mk.injEq] at this
      exact this.1
    refine HW (w' := { w with heap := w.heap.setIfInBounds b (.map (es.modify j fun e => { e with key := .string s, val := v }) es.size) }) (fun ρ ha => ?_) (h _ ⟨es.modify j fun e => { e with key := .string s, val := v }, by simp [hlt], ?_, ?_⟩ (pE w b _))
    · have hs : ∀ n, Instr.sameBits (n + 1) (.string s) (.string s) = true := fun n => by simp [Instr.sameBits, UA]
      simp only [execOp, ha m _ hm, ha i _ hi, ha x _ hx, Instr.mapUpdate, Sem.run_bind, run_underlying ht, Result.andThen_ok, getObj, Sem.run, hb]
      rw [h4] at h2
      simp [Result.andThen, h1, h2, setObj, Sem.run, hb, Array.getElem?_eq_getElem hjl, hkey, Instr.keyThatStays, hs 9999]
    · rw [GN hj]; exact map_upd hes
    · intro q hq
      simp only [Array.getElem_modify]
      split
      · exact hborn q (by simpa using hq)
      · exact hborn q (by simpa using hq)
end
def IterAt (w : World) (r m n : Nat) (seen : List Nat) : Prop := w.heap[r]? = some (.mapIter (some m) n seen.toArray n)
theorem IterAt.evo {X : List Nat} {w w' : World} {r m n : Nat} {seen : List Nat} (h : IterAt w r m n seen) (he : Evo X w w') (hx : r ∉ X) : IterAt w' r m n seen := he.blk h hx
theorem IterAt.lt {w : World} {r m n : Nat} {seen : List Nat} (h : IterAt w r m n seen) : r < w.heap.size := dK h
theorem ZQ {es : Array MapEntry} {seen : List Nat} (hborn : ∀ i (h : i < es.size), es[i].born = i) {e : MapEntry} (he : e ∈ (leftOf es seen.toArray).toList) :
    ∃ i, ∃ h : i < es.size, es[i] = e ∧ e.born = i ∧ i ∉ seen := by
  obtain ⟨h1, h2⟩ := mem_left he
  obtain ⟨i, hi, rfl⟩ := List.mem_iff_getElem.1 h1
  have hi' : i < es.size := by simpa using hi
  have hb := hborn i hi'
  refine ⟨i, hi', by simp, by simpa using hb, fun hm => ?_⟩
  have : (es.toList[i]).born = i := by simpa using hb
  rw [this] at h2
  simp [hm] at h2
theorem YL {es : Array MapEntry} {seen : List Nat} (hborn : ∀ i (h : i < es.size), es[i].born = i) (he : (leftOf es seen.toArray).size = 0) : ∀ i, i < es.size → i ∈ seen := by
  intro i hi
  refine Classical.byContradiction fun hm => ?_
  have : es[i] ∈ leftOf es seen.toArray := Array.mem_filter.2 ⟨Array.getElem_mem hi, by rw [hborn i hi]; simp [hm]⟩
  rw [Array.eq_empty_of_size_eq_zero he] at this
  simp at this
section
variable {P : Program} {N : NN} {ops : Array Oper} {R : gX} {rest : List Oper} {σ : Env} {w w' : World} {d : Nat} {dst : Option Nat} {T : TypeId} {pos : String} {after : Array Edge} {g : Option (Nat × Bool)}
theorem XA {t k e : TypeId} {x : Operand} {b : Nat} {kvs : KV} (hd : Nat.blt d N.1 = true) (hx : σ.ev x = some (.map (some b))) (ht : P.underlying t = some (.map k e)) (hm : MapAt w b kvs)
    (h : ∀ r w', IterAt w' r b kvs.length [] → w.heap.size = r → Evo [] w w' → WL P N ops R rest ((d, .pointer (some ⟨r, 0, none⟩)) :: σ) w') :
    WL P N ops R (⟨some d, .range t x, T, pos, after, none⟩ :: rest) σ w := by
  obtain ⟨es, hb, hes, hborn⟩ := hm
  have hl : es.size = kvs.length := by have := congrArg List.length hes; simpa using this
  refine fH (w' := w.alloc (.mapIter (some b) es.size #[] es.size)) hd (fun ρ ha => ?_) (h _ _ (by unfold IterAt; rw [← hl]; exact oR w _) rfl (lP w _))
  simp only [execOp, ha x _ hx, Sem.run_bind, run_range_map w t k e b es es.size ht hb, Result.andThen_ok, Sem.run_pure]
theorem RB {t k e : TypeId} {x : Operand} (hd : Nat.blt d N.1 = true) (hx : σ.ev x = some (.map none)) (ht : P.underlying t = some (.map k e))
    (h : ∀ r w', w'.heap[r]? = some (.mapIter none 0 #[] 0) → w.heap.size = r → Evo [] w w' → WL P N ops R rest ((d, .pointer (some ⟨r, 0, none⟩)) :: σ) w') :
    WL P N ops R (⟨some d, .range t x, T, pos, after, none⟩ :: rest) σ w := by
  refine fH (w' := w.alloc (.mapIter none 0 #[] 0)) hd (fun ρ ha => ?_) (h _ _ (oR w _) rfl (lP w _))
  simp only [execOp, ha x _ hx, Sem.run_bind, run_range_nilMap w t k e ht, Result.andThen_ok, Sem.run_pure]
theorem ZW {x : Operand} {r b : Nat} {kvs : KV} {seen : List Nat} (hd : Nat.blt d N.1 = true) (hx : σ.ev x = some (.pointer (some ⟨r, 0, none⟩))) (hi : IterAt w r b kvs.length seen) (hm : MapAt w b kvs)
    (h0 : (∀ i, i < kvs.length → i ∈ seen) → WL P N ops R rest ((d, .tuple #[.bool false]) :: σ) w)
    (h1 : ∀ i kv w', kvs[i]? = some kv → i ∉ seen → IterAt w' r b kvs.length (seen ++ [i]) → Evo [r] w w' → WL P N ops R rest ((d, .tuple #[.bool true, .string kv.1, kv.2]) :: σ) w') :
    WL P N ops R (⟨some d, .next x false, T, pos, after, none⟩ :: rest) σ w := by
  obtain ⟨es, hb, hes, hborn⟩ := hm
  have hl : es.size = kvs.length := by have := congrArg List.length hes; simpa using this
  have hlt : r < w.heap.size := IterAt.lt hi
  unfold IterAt at hi
  rw [← hl] at hi
  rcases run_next_at (P := P) w T r b es.size es.size seen.toArray es es.size hi hb (fun y hy => by
    obtain ⟨i, hi, rfl⟩ := List.mem_iff_getElem.1 hy
    have hi' : i < es.size := by simpa using hi
    have := hborn i hi'
    simpa [this] using hi') (Nat.le_refl _) with ⟨hz, hr⟩ | ⟨e, he, w1, hw1, hr⟩
  · refine fH (w' := w) hd (fun ρ ha => ?_) (h0 (by rw [← hl]; exact YL hborn hz))
    simp only [execOp, ha x _ hx, Sem.run_bind, hr, Result.andThen_ok, Sem.run_pure]
  · obtain ⟨i, hi', rfl, hbi, hns⟩ := ZQ hborn he
    have hkv := congrArg (fun l : List (Value × Value) => l[i]?) hes
    have hkl : i < kvs.length := by omega
    simp only [List.getElem?_map, Array.getElem?_toList, Array.getElem?_eq_getElem hi', List.getElem?_eq_getElem hkl, Option.map_some, Option.some.injEq, Prod.mk.injEq] at hkv
    rw [hkv.1, hkv.2, hbi] at hr
    have hev : Evo [r] w (ChangeMaps.setBlock w1 r (.mapIter (some b) es.size (seen.toArray.push i) es.size)) := by
      rcases hw1 with rfl | rfl
      · exact pE _ _ _
      · exact Evo.trans (X := [r]) ((OV w).mono (by simp)) (pE w.drew r _)
    have hit : IterAt (ChangeMaps.setBlock w1 r (.mapIter (some b) es.size (seen.toArray.push i) es.size)) r b kvs.length (seen ++ [i]) := by
      have : r < w1.heap.size := by rcases hw1 with rfl | rfl <;> exact hlt
      unfold IterAt
      rw [← hl]
      simp [ChangeMaps.setBlock, this]
    refine fH (w' := ChangeMaps.setBlock w1 r (.mapIter (some b) es.size (seen.toArray.push i) es.size)) hd (fun ρ ha => ?_) (h1 i _ _ (List.getElem?_eq_getElem hkl) hns hit hev)
    simp only [execOp, ha x _ hx, Sem.run_bind, hr, Result.andThen_ok, Sem.run_pure]
theorem XB {x : Operand} {r : Nat} (hd : Nat.blt d N.1 = true) (hx : σ.ev x = some (.pointer (some ⟨r, 0, none⟩))) (hi : w.heap[r]? = some (.mapIter none 0 #[] 0))
    (h : WL P N ops R rest ((d, .tuple #[.bool false]) :: σ) w) :
    WL P N ops R (⟨some d, .next x false, T, pos, after, none⟩ :: rest) σ w := by
  refine fH (w' := w) hd (fun ρ ha => ?_) h
  simp only [execOp, ha x _ hx, Instr.next, getObj, Sem.run_bind, Sem.run, hi, Result.andThen]
  rfl
end
section
variable {P : Program} {N : NN} {R : gX} {σ : Env} {w w' : World} {dst : Option Nat} {T : TypeId} {pos : String} {after : Array Edge} {g : Option (Nat × Bool)}
theorem ex_entry {x : Operand} {r b i : Nat} {kvs : KV} {seen : List Nat} {kv : ByteArray × Value} (hx : σ.ev x = some (.pointer (some ⟨r, 0, none⟩))) (hi : IterAt w r b kvs.length (seen ++ [i])) (hm : MapAt w b kvs) (hk : kvs[i]? = some kv) :
    Ex P σ ⟨dst, .entry x, T, pos, after, g⟩ w (.tuple #[.string kv.1, kv.2]) w := fun ρ ha => by
  obtain ⟨es, hb, hes, hborn⟩ := hm
  have hl : es.size = kvs.length := by have := congrArg List.length hes; simpa using this
  have hlt : i < es.size := by have := (List.getElem?_eq_some_iff.1 hk).1; omega
  have hkv := congrArg (fun l : List (Value × Value) => l[i]?) hes
  simp only [List.getElem?_map, Array.getElem?_toList, Array.getElem?_eq_getElem hlt, hk, Option.map_some, Option.some.injEq, Prod.mk.injEq] at hkv
  have hbn : es.toList.map (·.born) = List.range es.size := by
    apply List.ext_getElem
    · simp
    · intro j h1 h2
      have hj : j < es.size := by simpa using h2
      simpa using hborn j hj
  unfold IterAt at hi
  have hi2 : w.heap[r]? = some (.mapIter (some b) es.size (seen.toArray.push es[i].born) es.size) := by
    rw [hi, hborn i hlt, ← hl]; simp
  have h1 := run_entry_at (P := P) w r b es.size seen.toArray es es.size es[i] hi2 hb (by simp) (by rw [hbn]; exact List.nodup_range)
  simp only [execOp, ha x _ hx, Sem.run_bind, h1, hkv.1, hkv.2, Result.andThen_ok, Sem.run_pure]
end
theorem BL {l r : List Nat} (h1 : l.Nodup) (h2 : r.Nodup) (h : ∀ x, x ∈ l ↔ x ∈ r) : l.Perm r := by
  rw [List.perm_iff_count]
  intro a
  rw [h1.count, h2.count]
  simp only [h a]
theorem seen_le {l : List Nat} {n : Nat} (h1 : l.Nodup) (h2 : ∀ x, x ∈ l → x < n) : l.length ≤ n := by
  have h := BL (l := l ++ (List.range n).filter (fun x => decide (x ∉ l))) (r := List.range n) (by
    rw [List.nodup_append]
    refine ⟨h1, List.nodup_range.filter _, fun a ha b hb e => ?_⟩
    subst e
    have := (List.mem_filter.1 hb).2
    exact of_decide_eq_true this ha) List.nodup_range (fun x => by
    rw [List.mem_append, List.mem_filter, List.mem_range]
    constructor
    · rintro (h | h)
      · exact h2 x h
      · exact h.1
    · intro h
      by_cases hx : x ∈ l
      · exact .inl hx
      · exact .inr ⟨h, decide_eq_true hx⟩)
  have := h.length_eq
  simp only [List.length_append, List.length_range] at this
  omega
section
variable {P : Program} {σ : Env} {w : World} {dst : Option Nat} {T : TypeId} {pos : String} {after : Array Edge} {g : Option (Nat × Bool)}
theorem lY {t k e : TypeId} {x i : Operand} {b : Nat} {kvs : KV} {s : ByteArray} {z r : Value} (hx : σ.ev x = some (.map (some b))) (hi : σ.ev i = some (.string s)) (ht : P.underlying t = some (.map k e)) (hk : P.underlying k = some .string) (hz : UE P e = some z) (hm : MapAt w b kvs) (hr : (gT kvs s).getD z = r) :
    Ex P σ ⟨dst, .lookup t x i false, T, pos, after, g⟩ w r w := hr ▸ HH hx hi ht hk hz hm
theorem XQ (n : Nat) {t k e : TypeId} {m : Option Nat} (ht : P.underlying t = some (.map k e)) : (Op.equalIn (n + 1) t (.map m) (.map none)).run P w = .ok m.isNone w := by
  cases m <;> simp [Op.equalIn, run_underlying ht]
theorem OR {x y : Operand} {t k e t' : TypeId} {m : Option Nat} (hx : σ.ev x = some (.map m)) (hy : σ.ev y = some (.map none)) (ht : P.underlying t = some (.map k e)) :
    Ex P σ ⟨dst, .binOp .eql t x y t', T, pos, after, g⟩ w (.bool m.isNone) w := fun ρ hρ => by
  have h1 : (Op.equal t (.map m) (.map none)).run P w = .ok m.isNone w := XQ 9999 ht
  simp [execOp, hρ x _ hx, hρ y _ hy, eqGuard, Go.binOp, h1]
end
end Go.W
namespace Go.W
section
variable {P : Program} {σ : Env} {w : World} {dst : Option Nat} {T : TypeId} {pos : String} {after : Array Edge} {g : Option (Nat × Bool)}
theorem ex_sgeq {x y : Operand} {t t' : TypeId} {a b : ByteArray} (hx : σ.ev x = some (.string a)) (hy : σ.ev y = some (.string b)) : Ex P σ ⟨dst, .binOp .geq t x y t', T, pos, after, g⟩ w (.bool (decide (¬ a.toList < b.toList))) w := fun ρ h => by
  have : (!Op.bytesLess a.toList b.toList) = decide (¬ a.toList < b.toList) := by rw [Go.Proofs.bytesLess_eq, decide_not]
  simp [execOp, h x _ hx, h y _ hy, eqGuard, Go.binOp_string_geq, this]
end
end Go.W
namespace Go.Proofs.YtidpigbinpaaeaaGreat
open Go.RowKit Go.W
def kZ (c : Nat) : Prop := (97 ≤ c ∧ c ≤ 122) ∨ (65 ≤ c ∧ c ≤ 90) ∨ c = 95
instance (c : Nat) : Decidable (kZ c) := by unfold kZ; infer_instance
def CF (c : Nat) : Prop := kZ c ∨ (48 ≤ c ∧ c ≤ 57)
instance (c : Nat) : Decidable (CF c) := by unfold CF; infer_instance
def WX (s : ByteArray) (k : Nat) : Prop := k ≤ s.size ∧ (∀ j, j < k → CF (sb s j)) ∧ (k < s.size → ¬ CF (sb s k))
def lA (s : ByteArray) : Prop := 0 < s.size ∧ kZ (sb s 0) ∧ ∀ j, j < s.size → CF (sb s j)
instance (s : ByteArray) : Decidable (lA s) := by unfold lA; infer_instance
theorem yJ {s : ByteArray} {k : Nat} (h : WX s k) : (k = s.size ↔ ∀ j, j < s.size → CF (sb s j)) := by
  constructor
  · rintro rfl; exact h.2.1
  · intro ha
    by_cases hk : k < s.size
    · exact absurd (ha k hk) (h.2.2 hk)
    · have := h.1; omega
def HT (s : ByteArray) (p : Nat) : Prop := p + 3 ≤ s.size ∧ s.extract p (p + 3) = (ByteArray.mk #[239, 191, 189])
instance (s : ByteArray) (p : Nat) : Decidable (HT s p) := by unfold HT; infer_instance
def mX (s : ByteArray) : Nat → Nat → Bool
  | 0, _ => true
  | f + 1, p => if p < s.size then if (Utf8.decode s p).1 = 65533 ∧ ¬ HT s p then false else mX s f (p + (Utf8.decode s p).2) else true
def qV (s : ByteArray) : Bool := mX s (s.size + 1) 0
abbrev LB := ByteArray × ByteArray
def lbOk (ls : List LB) : Prop := ∀ i (h : i < ls.length), lA ls[i].1 ∧ ls[i].2 ≠ ByteArray.empty ∧ qV ls[i].2 = true ∧ ∀ j (hj : j < ls.length), i = j + 1 → ls[j].1.toList < ls[i].1.toList
def lbOkTo (ls : List LB) (n : Nat) : Prop := ∀ i (h : i < ls.length), i < n → lA ls[i].1 ∧ ls[i].2 ≠ ByteArray.empty ∧ qV ls[i].2 = true ∧ ∀ j (hj : j < ls.length), i = j + 1 → ls[j].1.toList < ls[i].1.toList
theorem lbOkTo.succ {ls : List LB} {n : Nat} (h : lbOkTo ls n) (hn : n < ls.length) (h1 : lA ls[n].1) (h2 : ls[n].2 ≠ ByteArray.empty) (h3 : qV ls[n].2 = true) (h4 : ∀ j (hj : j < ls.length), n = j + 1 → ls[j].1.toList < ls[n].1.toList) : lbOkTo ls (n + 1) := fun i hi hin => by
  by_cases e : i = n
  · subst e; exact ⟨h1, h2, h3, h4⟩
  · exact h i hi (by omega)
theorem EJ {a b c : List UInt8} (h1 : a < b) (h2 : b < c) : a < c := List.lt_trans h1 h2
theorem lbOk.rise {ls : List LB} (h : lbOk ls) : ∀ (j i : Nat) (hj : j < ls.length) (hi : i < ls.length), j < i → ls[j].1.toList < ls[i].1.toList := by
  intro j i hj hi hlt
  induction i with
  | zero => omega
  | succ i ih =>
    have h1 := (h (i + 1) hi).2.2.2 i (by omega) rfl
    by_cases e : j = i
    · subst e; exact h1
    · exact EJ (ih (by omega) (by omega)) h1
theorem lbOk.uniq {ls : List LB} (h : lbOk ls) {j i : Nat} (hj : j < ls.length) (hi : i < ls.length) (he : ls[j].1 = ls[i].1) : j = i := by
  rcases Nat.lt_trichotomy j i with h1 | h1 | h1
  · have := h.rise j i hj hi h1; rw [he] at this; exact absurd this (List.lt_irrefl _)
  · exact h1
  · have := h.rise i j hi hj h1; rw [he] at this; exact absurd this (List.lt_irrefl _)
theorem zI (s : ByteArray) (p : Nat) (h : p < s.size) : 1 ≤ (Utf8.decode s p).2 := by
  by_cases ha : (s[p]'h).toNat < 128
  · rw [decode_ascii s p h ha]; exact Nat.le_refl 1
  · exact (decode_high s p h (by omega)).2
theorem ML {s : ByteArray} {f p : Nat} (hp : p < s.size) (h : ¬ ((Utf8.decode s p).1 = 65533 ∧ ¬ HT s p)) : mX s (f + 1) p = mX s f (p + (Utf8.decode s p).2) := by
  rw [mX, if_pos hp, if_neg h]
theorem utf_bad {s : ByteArray} {f p : Nat} (hp : p < s.size) (h : (Utf8.decode s p).1 = 65533) (h2 : ¬ HT s p) : mX s (f + 1) p = false := by
  rw [mX, if_pos hp, if_pos ⟨h, h2⟩]
theorem utf_end {s : ByteArray} {f p : Nat} (hp : ¬ p < s.size) : mX s f p = true := by
  cases f with
  | zero => rfl
  | succ f => rw [mX, if_neg hp]
def RLB : Rel LB := fun _ _ vs d => vs = [.string d.1, .string d.2] ∧ d.1.size ≤ 1000000000 ∧ d.2.size ≤ 1000000000
theorem RLB.pers : RLB.Pers := fun _ _ _ _ _ _ h => h
end Go.Proofs.YtidpigbinpaaeaaGreat
namespace Go.Proofs.YtidpigbinpaaeaaGreat
open Go.W
attribute [local irreducible] Decidable.decide
theorem uG : iN Tryz.prog 52 = some true := by kernel_rfl
theorem dD : iN Tryz.prog 9 = some false := by kernel_rfl
theorem oE : mA Tryz.prog 49 = some 2 := by kernel_rfl
theorem iG : dA Tryz.prog 52 0 = some 0 := by kernel_rfl
theorem iF : dA Tryz.prog 52 1 = some 1 := by kernel_rfl
theorem xB : cX Tryz.prog 59 := ⟨_, Tryz.func59, by kernel_rfl, by kernel_rfl⟩
theorem xJ : cX Tryz.prog 10 := ⟨_, Tryz.func10, by kernel_rfl, by kernel_rfl⟩
theorem xA : cX Tryz.prog 88 := ⟨_, Tryz.func88, by kernel_rfl, by kernel_rfl⟩
theorem KO : cX Tryz.prog 89 := ⟨_, Tryz.func89, by kernel_rfl, by kernel_rfl⟩
theorem LJ : cX Tryz.prog 31 := ⟨_, Tryz.func31, by kernel_rfl, by kernel_rfl⟩
theorem ES : cX Tryz.prog 104 := ⟨_, Tryz.func104, by kernel_rfl, by kernel_rfl⟩
theorem kA : eQ Tryz.prog 52 = some 2 := by kernel_rfl
theorem sF : kF Tryz.prog 52 = some #[.string ByteArray.empty, .string ByteArray.empty] := by kernel_rfl
theorem GT {w : World} (c : Nat) : Calls Tryz.prog 88 #[.int .u8 (c : Nat)] w (Ret fun v w' => v = .bool (decide (kZ c)) ∧ Evo [] w w') := by
  refine aT (N := 21) Tryz.func88 rfl rfl rfl ?_; refine csr (wan (csr (aB (aC (dV rfl rfl) ?_)))); refine aB (bF (t := 5) rfl (fun H => ?_) (fun H => ?_))
  ·refine aS (aB (aS (aC (eH rfl rfl) ?_))); refine bW (aB (bF (t := 9) rfl (fun I => ?_) (fun I => ?_)))
   ·refine aN (aN (aN (dT ?_))); refine dT ?_; refine aN (bW (aB (aN (aN (bW (wan (aH (br1 ?_)))))))); refine ⟨congrArg Value.bool (Bool.eq_iff_iff.2 ?_), (Evo.refl [] w)⟩
    simp only [decide_eq_true_eq, Bool.false_eq_true, Bool.true_eq_false, true_iff, false_iff, eq_self, iff_true]; unfold kZ; omega
   refine aS (aB (aS (aC (dV rfl rfl) ?_))); refine aS (aB (bF (t := 12) rfl (fun A => ?_) (fun A => ?_)))
   ·refine aS (aB (aS (aC (eH rfl rfl) ?_))); refine aS (bW (bM (aB (bF (t := 17) rfl (fun E => ?_) (fun E => ?_)))))
    ·refine aN (aN (bW (wan (aH (br1 ?_))))); refine ⟨congrArg Value.bool (Bool.eq_iff_iff.2 ?_), (Evo.refl [] w)⟩
     simp only [decide_eq_true_eq, Bool.false_eq_true, Bool.true_eq_false, true_iff, false_iff, eq_self, iff_true]; unfold kZ; omega
    refine aS (aB (aS (wel ?_))); refine bM (wan (aH (br1 ?_))); refine ⟨congrArg Value.bool (Bool.eq_iff_iff.2 ?_), (Evo.refl [] w)⟩
    simp only [decide_eq_true_eq, Bool.false_eq_true, Bool.true_eq_false, true_iff, false_iff, eq_self, iff_true]; unfold kZ; omega
   refine aN (aN (aS (bM (bM (aB (aS (aB (aS (wel ?_))))))))); refine bM (wan (aH (br1 ?_))); refine ⟨congrArg Value.bool (Bool.eq_iff_iff.2 ?_), (Evo.refl [] w)⟩
   simp only [decide_eq_true_eq, Bool.false_eq_true, Bool.true_eq_false, true_iff, false_iff, eq_self, iff_true]; unfold kZ; omega
  refine aN (aN (bM (aB (aS (aB (aS (aC (dV rfl rfl) ?_))))))); refine aS (aB (bF (t := 12) rfl (fun A => ?_) (fun A => ?_)))
  ·refine aS (aB (aS (aC (eH rfl rfl) ?_))); refine aS (bW (bM (aB (bF (t := 17) rfl (fun E => ?_) (fun E => ?_)))))
   ·refine aN (aN (bW (wan (aH (br1 ?_))))); refine ⟨congrArg Value.bool (Bool.eq_iff_iff.2 ?_), (Evo.refl [] w)⟩
    simp only [decide_eq_true_eq, Bool.false_eq_true, Bool.true_eq_false, true_iff, false_iff, eq_self, iff_true]; unfold kZ; omega
   refine aS (aB (aS (wel ?_))); refine bM (wan (aH (br1 ?_))); refine ⟨congrArg Value.bool (Bool.eq_iff_iff.2 ?_), (Evo.refl [] w)⟩
   simp only [decide_eq_true_eq, Bool.false_eq_true, Bool.true_eq_false, true_iff, false_iff, eq_self, iff_true]; unfold kZ; omega
  refine aN (aN (aS (bM (bM (aB (aS (aB (aS (wel ?_))))))))); refine bM (wan (aH (br1 ?_))); refine ⟨congrArg Value.bool (Bool.eq_iff_iff.2 ?_), (Evo.refl [] w)⟩
  simp only [decide_eq_true_eq, Bool.false_eq_true, Bool.true_eq_false, true_iff, false_iff, eq_self, iff_true]; unfold kZ; omega
theorem digit_ok {w : World} (c : Nat) : Calls Tryz.prog 104 #[.int .u8 (c : Nat)] w (Ret fun v w' => v = .bool (decide (48 ≤ c ∧ c ≤ 57)) ∧ Evo [] w w') := by
  refine aT (N := 9) Tryz.func104 rfl rfl rfl ?_; refine csr (wan (csr (aB (aC (dV rfl rfl) ?_)))); refine aB (bF (t := 5) rfl (fun A => ?_) (fun A => ?_))
  ·refine aS (aB (aS (aC (eH rfl rfl) ?_))); refine bW (wan (aH (br1 ?_))); refine ⟨congrArg Value.bool (Bool.eq_iff_iff.2 ?_), (Evo.refl [] w)⟩
   simp only [decide_eq_true_eq, Bool.false_eq_true, Bool.true_eq_false, true_iff, false_iff, eq_self, iff_true]; omega
  refine aN (aN (bM (wan (aH (br1 ?_))))); refine ⟨congrArg Value.bool (Bool.eq_iff_iff.2 ?_), (Evo.refl [] w)⟩
  simp only [decide_eq_true_eq, Bool.false_eq_true, Bool.true_eq_false, true_iff, false_iff, eq_self, iff_true]; omega
theorem SS {w : World} (s : ByteArray) (hl : s.size ≤ 140737488355328) : Calls Tryz.prog 89 #[.string s, .int .i64 (0 : Nat), .bool false] w (Ret fun v w' => ∃ k : Nat, v = .int .i64 k ∧ WX s k ∧ Evo [] w w') := by
  refine aT (N := 35) Tryz.func89 rfl rfl rfl ?_; refine csr (wan (aI (bC ?_))); refine cN (α := Nat) (0) (fun k => [(1, .int .i64 (k : Nat))]) [(0, _), (2, _), (6, _)] (fun k wr => Evo [] w wr ∧ (k ≤ s.size ∧ ∀ j, j < k → CF (sb s j))) (fun k => s.size - k) ⟨rfl, trivial⟩ ⟨rfl, rfl, rfl, trivial⟩ ⟨Evo.refl _ _, ⟨Nat.zero_le _, fun j h => by omega⟩⟩ ?_; rintro k wr1 ⟨H, ⟨hk, hn⟩⟩; show CW _ _ _ _ [(1, _), (0, _), (2, _), (6, _)] _; have J := (Evo.refl [] w).then H; refine aI (csr (aB (aB (aC (cD rfl Tryz.underlying9 rfl) ?_)))); refine aC (cP rfl rfl) ?_; refine aB (bF (t := 11) rfl (fun M => ?_) (fun M => ?_))
  ·refine aS (aB (aS (aB (aS ?_)))); refine aC (eD (n := k) rfl rfl Tryz.underlying9 rfl (by omega)) ?_; refine aS (aJ (vs := [_]) xA rfl (GT (sb s k)) rfl ?_); rintro _ w4 ⟨rfl, I⟩; refine aS (aB (bF (t := 16) rfl (fun A => ?_) (fun A => ?_)))
   ·refine aN (aN (aN (aN (aS (bW (aS (aB (aN (aN (dT ?_)))))))))); refine dT ?_; refine dT ?_; refine dT ?_; refine aN (aS (bW (bW (wnn (dB rfl ?_))))); refine aL (aA (bC (aF (aB ?_)))); refine aC (aK rfl rfl (by omega) (by omega)) ?_; refine bR (aP (aO (aW ?_))); refine ⟨k + 1, ?_, ⟨rfl, trivial⟩, ⟨rfl, rfl, rfl, trivial⟩, (H.then I), ?_⟩
    · omega
    refine ⟨by omega, fun j hj => ?_⟩
    by_cases e : j < k
    · exact hn j e
    · obtain rfl : j = k := by omega
      first | exact .inl A | exact .inr E | exact .inr O | exact .inl (by assumption) | exact .inr (by assumption)
   refine aS (aB (aS (aB (aS ?_)))); refine aC (eD (n := k) rfl rfl Tryz.underlying9 rfl (by omega)) ?_; refine aS (aJ (vs := [_]) ES rfl (digit_ok (sb s k)) rfl ?_); rintro _ w8 ⟨rfl, L⟩; refine aS (bM (aS (aB (bF (t := 22) rfl (fun E => ?_) (fun E => ?_)))))
   ·refine aN (aN (dT ?_)); refine dT ?_; refine dT ?_; refine dT ?_; refine aN (aS (bW (bW (wnn (dB rfl ?_))))); refine aL (aA (bC (aF (aB ?_)))); refine aC (aK rfl rfl (by omega) (by omega)) ?_; refine bR (aP (aO (aW ?_))); refine ⟨k + 1, ?_, ⟨rfl, trivial⟩, ⟨rfl, rfl, rfl, trivial⟩, ((H.then I).then L), ?_⟩
    · omega
    refine ⟨by omega, fun j hj => ?_⟩
    by_cases e : j < k
    · exact hn j e
    · obtain rfl : j = k := by omega
      first | exact .inl A | exact .inr E | exact .inr O | exact .inl (by assumption) | exact .inr (by assumption)
   refine aS (aB (aS (aB (aN (aN (aN (aN (aS (bM (aS (bM (bW (wnn (cM rfl ?_)))))))))))))); refine cJ (bH (bH (cI (aA ?_)))); refine csr (aB (wan (aH (br1 ?_)))); refine ⟨k, rfl, ⟨hk, hn, fun h hx => ?_⟩, ((J.then I).then L)⟩
   first | omega | (rcases hx with hx | hx <;> first | contradiction | omega)
  refine aN (aN (aN (aN (aN (dT ?_))))); refine dT ?_; refine dT ?_; refine dT ?_; refine aN (aN (dT ?_)); refine dT ?_; refine dT ?_; refine dT ?_; refine dT ?_; refine dT ?_; refine dT ?_; refine aN (bM (wnn (cM rfl ?_))); refine cJ (bH (bH (cI (aA ?_)))); refine csr (aB (wan (aH (br1 ?_)))); refine ⟨k, rfl, ⟨hk, hn, fun h hx => ?_⟩, J⟩
  first | omega | (rcases hx with hx | hx <;> first | contradiction | omega)
theorem IA {s : ByteArray} (h : ¬ s = ByteArray.mk #[]) : 0 < s.size := by
  rcases Nat.eq_zero_or_pos s.size with h0 | h0
  · exact absurd (ByteArray.ext (Array.eq_empty_of_size_eq_zero h0)) h
  · exact h0
theorem HZ {s : ByteArray} (h : ¬ ¬ s = ByteArray.mk #[]) : s.size = 0 := by rw [Classical.not_not.1 h]; rfl
theorem CL {w : World} (s : ByteArray) (hl : s.size ≤ 140737488355328) : Calls Tryz.prog 59 #[.string s] w (Ret fun v w' => v = .bool (decide (lA s)) ∧ Evo [] w w') := by
  refine aT (N := 17) Tryz.func59 rfl rfl rfl ?_; refine csr (wan (csr (aB (aC (JJ rfl rfl) ?_)))); refine aB (bF (t := 5) rfl (fun A => ?_) (fun A => ?_))
  ·refine aS (aB (aS ?_))
   refine aC (eD (n := 0) rfl rfl Tryz.underlying9 rfl (by have := IA A; omega)) ?_
   refine aS (aJ (vs := [_]) xA rfl (GT (sb s 0)) rfl ?_); rintro _ w1 ⟨rfl, I⟩; have E := (Evo.refl [] w).then I; refine bW (aB (bF (t := 10) rfl (fun H => ?_) (fun H => ?_)))
   ·refine aS (aB (aS (aJ (vs := [_, _, _]) KO rfl (SS s hl) rfl ?_))); rintro _ w4 ⟨k, rfl, hk, J⟩; refine aS (aB (aS (aC (cD rfl Tryz.underlying9 rfl) ?_))); refine aS (wel ?_); refine bW (wan (aH (br1 ?_))); refine ⟨congrArg Value.bool (Bool.eq_iff_iff.2 ?_), (E.then J)⟩; simp only [decide_eq_true_eq, Bool.false_eq_true, Bool.true_eq_false, true_iff, false_iff, eq_self, iff_true]; unfold lA
    first
      | (have h0 := IA A; have h1 := yJ hk; constructor; exact fun h => ⟨h0, by assumption, h1.1 (by omega)⟩; exact fun h => by have := h1.2 h.2.2; omega)
      | exact fun h => absurd h.2.1 (by assumption)
      | exact fun h => absurd h.1 (by have := HZ A; omega)
   refine aN (aN (aN (aN (aN (bM (wan (aH (br1 ?_)))))))); refine ⟨congrArg Value.bool (Bool.eq_iff_iff.2 ?_), E⟩; simp only [decide_eq_true_eq, Bool.false_eq_true, Bool.true_eq_false, true_iff, false_iff, eq_self, iff_true]; unfold lA
   first
     | (have h0 := IA A; have h1 := yJ hk; constructor; exact fun h => ⟨h0, by assumption, h1.1 (by omega)⟩; exact fun h => by have := h1.2 h.2.2; omega)
     | exact fun h => absurd h.2.1 (by assumption)
     | exact fun h => absurd h.1 (by have := HZ A; omega)
  refine aN (aN (aN (bM (aB (aN (aN (aN (aN (aN (bM (wan (aH (br1 ?_))))))))))))); refine ⟨congrArg Value.bool (Bool.eq_iff_iff.2 ?_), (Evo.refl [] w)⟩; simp only [decide_eq_true_eq, Bool.false_eq_true, Bool.true_eq_false, true_iff, false_iff, eq_self, iff_true]; unfold lA
  first
    | (have h0 := IA A; have h1 := yJ hk; constructor; exact fun h => ⟨h0, by assumption, h1.1 (by omega)⟩; exact fun h => by have := h1.2 h.2.2; omega)
    | exact fun h => absurd h.2.1 (by assumption)
    | exact fun h => absurd h.1 (by have := HZ A; omega)
theorem IF {w : World} (s : ByteArray) (a : Nat) (ha : a ≤ s.size) (hl : s.size ≤ 140737488355328) : Calls Tryz.prog 31 #[.string s, .int .i64 (a : Nat)] w (Ret fun v w' => v = .bool (decide (HT s a)) ∧ Evo [] w w') := by
  refine aT (N := 18) Tryz.func31 rfl rfl rfl ?_; refine csr (wan (csr (aB ?_))); refine aC (aK rfl rfl (by omega) (by omega)) ?_; refine aB (aC (cD rfl Tryz.underlying9 rfl) ?_); refine aC (eH rfl rfl) ?_; refine aB (bF (t := 10) rfl (fun A => ?_) (fun A => ?_))
  ·refine aS (aB (aS (aB (aS (aB (aS ?_)))))); refine aC (aK rfl rfl (by omega) (by omega)) ?_; refine aS ?_; refine aC (AP (l := a) (h := a + 3) rfl rfl rfl Tryz.underlying9 rfl (by omega) (by omega) (by omega)) ?_; refine aS (aC (gK rfl rfl) ?_); refine bW (wan (aH (br1 ?_))); refine ⟨congrArg Value.bool (decide_eq_decide.2 ?_), (Evo.refl [] w)⟩; constructor
   · exact fun h => ⟨by omega, h⟩
   · exact fun h => h.2
  refine aN (aN (aN (aN (aN (aN (bM (wan (aH (br1 ?_)))))))))
  exact ⟨congrArg Value.bool (decide_eq_false (fun h => by have := h.1; omega)).symm, (Evo.refl [] w)⟩
theorem utf_ok {w : World} (s : ByteArray) (hl : s.size ≤ 140737488355328) : Calls Tryz.prog 10 #[.string s] w (Ret fun v w' => v = .bool (qV s) ∧ Evo [] w w') := by
  refine aT (N := 19) Tryz.func10 rfl rfl rfl ?_; refine csr (wan (aI (csr (aB (xV rfl rfl Tryz.underlying9 fun it w1 U V W => ?_))))); refine wnn (bC ?_); refine cN (α := Nat × Nat) ((s.size + 1, 0)) (fun x => []) [(0, _), (6, _)] (fun x wr => Evo [] w wr ∧ (s.size < x.1 + x.2 ∧ mX s x.1 x.2 = qV s ∧ wr.heap[it]? = some (.stringIter s x.2) ∧ w.heap.size ≤ it)) (fun x => x.1) trivial ⟨rfl, rfl, trivial⟩ ⟨((Evo.refl [] w).then W), ⟨by simp, rfl, U, (Ge.new (Evo.refl [] w) V) _ rfl⟩⟩ ?_; rintro ⟨f, p⟩ wr7 ⟨I, ⟨hf, hu, hIt, hg⟩⟩; show CW _ _ _ _ [(0, _), (6, _)] _
  try dsimp only at hf hu hIt hg
  have hGit : Ge w (some it) := fun g h => by cases h; exact hg
  refine csr ?_
  by_cases J : p < s.size
  ·refine AZ rfl rfl hIt J fun a0 H L => ?_; have A := I.step L hGit.mem1; obtain ⟨f, rfl⟩ : ∃ f', f = f' + 1 := ⟨f - 1, by omega⟩; refine aC (bK rfl rfl) ?_; refine wnn (aI (dB rfl ?_)); refine aL (aA (bC (csr (aC (bK rfl rfl) ?_)))); refine aC (bK rfl rfl) ?_; refine bR (wan (csr (aB (wel ?_)))); refine aB (bF (t := 13) rfl (fun M => ?_) (fun M => ?_))
   ·refine aS (aB (aS (aB (aS ?_)))); refine aJ (vs := [_, _]) LJ rfl (IF s p (by omega) hl) rfl ?_; rintro _ a1 ⟨rfl, E⟩; refine aS (aC (lX rfl) ?_); refine bW (wnn (bA rfl (fun O => ?_) (fun O => ?_)))
    ·refine csr (wan (aH (aM (aE (aM (aE (br1 ?_))))))); exact ⟨by rw [← hu, utf_bad (by assumption) (by omega) (by assumption)], (A.then E)⟩
    refine aL (aO (aW ?_)); refine ⟨(f, p + (Utf8.decode s p).2), ?_, trivial, ⟨rfl, rfl, trivial⟩, (A.then E), ?_⟩
    · (try dsimp only); omega
    try dsimp only
    have hdp := zI s p (by assumption)
    exact ⟨by omega, by rw [← hu, ML (by assumption) (fun h => by first | (have := h.2; contradiction) | (have := h.1; omega))], (E.blk0 H), hg⟩
   refine aN (aN (aN (aN (bM (wnn (cM rfl ?_)))))); refine aL (aO (aW ?_)); refine ⟨(f, p + (Utf8.decode s p).2), ?_, trivial, ⟨rfl, rfl, trivial⟩, A, ?_⟩
   · (try dsimp only); omega
   try dsimp only
   have hdp := zI s p (by assumption)
   exact ⟨by omega, by rw [← hu, ML (by assumption) (fun h => by first | (have := h.2; contradiction) | (have := h.1; omega))], H, hg⟩
  refine MJ rfl rfl hIt J ?_; refine aC (bK rfl rfl) ?_; refine wnn (aI (cM rfl ?_)); refine cJ (bH (bH (cI (aA ?_)))); refine csr (wan (aH (br1 ?_))); exact ⟨by rw [← hu, utf_end (by assumption)], I⟩
theorem XF {X : List Nat} {w : World} {v : Value} {ls : List LB} (hs : RSl 2 RLB X w v ls) (hl : ls.length ≤ 1000000000) : Calls Tryz.prog 35 #[v] w (Ret fun v w' => ∃ b, v = .bool b ∧ (b = true ↔ lbOk ls) ∧ Evo [] w w') := by
  obtain ⟨sa, sc, rfl, hlc, e1⟩ := hs; refine aT (N := 43) Tryz.func35 rfl rfl rfl ?_; refine csr (wan (aI (csr (aB (aC (bD rfl Tryz.underlying49 rfl) ?_))))); refine aB (wnn (bC ?_)); refine cN (α := Nat) (0) (fun k => [(7, .int .i64 (k : Nat))]) [(0, _), (5, _), (6, _)] (fun k wr => Evo [] w wr ∧ (k ≤ ls.length ∧ lbOkTo ls k)) (fun k => ls.length - k) ⟨rfl, trivial⟩ ⟨rfl, rfl, rfl, trivial⟩ ⟨Evo.refl _ _, ⟨Nat.zero_le _, fun i _ h => by omega⟩⟩ ?_; rintro k wr1 ⟨a1, ⟨hk, hok⟩⟩; show CW _ _ _ _ [(7, _), (0, _), (5, _), (6, _)] _; have a0 := (Evo.refl [] w).then a1; refine csr (aC (cP rfl rfl) ?_); refine wnn (aI (bA rfl (fun b6 => ?_) (fun b6 => ?_)))
  ·have hk' : k < ls.length := by omega
   obtain ⟨b1, o1, vs1, ha1, hb1, -, b7, rfl, hz1, hz2⟩ := e1 k hk'; refine aL (aA (aI (bC (csr (aB ?_)))))
   refine aC (bX (n := k) (by rw [ha1]; rfl) rfl oE (by omega)) ?_
   refine aC (cY rfl uG kA (vs := [_, _]) rfl (b7.evo a0 (by simp))) ?_; refine cF rfl sF fun b4 w5 b8 a7 a8 => ?_; refine bR ?_; refine aZ rfl rfl kA b8 rfl rfl ⟨by first | rfl | assumption, by first | rfl | assumption, trivial⟩ fun c0 a9 a2 => ?_; refine wnn (aI ?_); refine eX (fun w0 w' => Evo [] w0 w') (by kernel_rfl) (fun a3 M => ?_); have a4 := ((a0.then a8).step a2 (Ge.new a0 a7).mem1).then M; have I := M.blk0 a9; refine aet 0 rfl (fun _ hS => aD rfl iG) (Evo.refl [] a3) ?_; refine aet 1 rfl (fun _ hS => aQ rfl dD (aV (hS.blk0 I) rfl)) (Evo.refl [] a3) ?_; refine bS [2] (by kernel_rfl) rfl ⟨?_, trivial⟩; refine bY rfl ?_; refine aJ (vs := [_]) xB rfl (CL ls[k].1 (by omega)) rfl ?_; rintro _ c1 ⟨rfl, O⟩; have U := a4.then O; have A := (Evo.refl [] a3).then O; refine aP (bN (.inl A) ?_); refine aet 3 rfl (fun _ hS => lX rfl) A ?_; refine aet 4 rfl (fun _ hS => aY rfl) A ?_; refine DU (t := 16) rfl (fun J => ?_) (fun J => ?_)
   ·refine lQ 5 rfl A ?_; refine lQ 6 rfl A ?_; refine lQ 7 rfl A ?_; refine aet 8 rfl (fun _ hS => dX rfl rfl) A ?_; refine aet 9 rfl (fun _ hS => aY rfl) A ?_; refine lQ 10 rfl A ?_; refine lQ 11 rfl A ?_; refine bS [12] (by kernel_rfl) rfl ⟨?_, trivial⟩; refine bY rfl ?_; refine aN (aP (bN (.inl A) ?_)); refine lQ 13 rfl A ?_; refine aet 14 rfl (fun _ hS => dX rfl rfl) A ?_; refine aet 15 rfl (fun _ hS => aY rfl) A ?_; refine lQ 16 rfl A ?_; refine lQ 17 rfl A ?_; refine lQ 18 rfl A ?_; refine dQ 19 rfl rfl rfl rfl rfl (by kernel_rfl) (by kernel_rfl) (by kernel_rfl) rfl A ?_; refine dQ 20 rfl rfl rfl rfl rfl (by kernel_rfl) (by kernel_rfl) (by kernel_rfl) rfl A ?_
    refine dQ 21 rfl rfl rfl rfl rfl (by kernel_rfl) (by kernel_rfl) (by kernel_rfl) rfl A ?_; refine dQ 22 rfl rfl rfl rfl rfl (by kernel_rfl) (by kernel_rfl) (by kernel_rfl) rfl A ?_; refine dQ 23 rfl rfl rfl rfl rfl (by kernel_rfl) (by kernel_rfl) (by kernel_rfl) rfl A ?_; refine dQ 24 rfl rfl rfl rfl rfl (by kernel_rfl) (by kernel_rfl) (by kernel_rfl) rfl A ?_; refine dQ 25 rfl rfl rfl rfl rfl (by kernel_rfl) (by kernel_rfl) (by kernel_rfl) rfl A ?_; refine dQ 26 rfl rfl rfl rfl rfl (by kernel_rfl) (by kernel_rfl) (by kernel_rfl) rfl A ?_; refine dQ 27 rfl rfl rfl rfl rfl (by kernel_rfl) (by kernel_rfl) (by kernel_rfl) rfl A ?_; refine lQ 28 rfl A ?_; refine aet 29 rfl (fun _ hS => dX rfl rfl) A ?_; refine cV (by kernel_rfl) (aA ?_); refine dB rfl ?_; refine csr (wan (aH (aM (aE (aE (aM (aE (br1 ?_))))))))
    exact ⟨false, rfl, by simp only [Bool.false_eq_true, false_iff]; exact fun h => J (h k hk').1, U⟩
   refine fG 5 rfl rfl rfl rfl rfl (by kernel_rfl) (by kernel_rfl) (by kernel_rfl) rfl (fun _ hS => aD rfl iF) A ?_; refine fG 6 rfl rfl rfl rfl rfl (by kernel_rfl) (by kernel_rfl) (by kernel_rfl) rfl (fun _ hS => aQ rfl dD (aV (hS.blk0 I) rfl)) A ?_; refine fG 7 rfl rfl rfl rfl rfl (by kernel_rfl) (by kernel_rfl) (by kernel_rfl) rfl (fun _ hS => gK rfl rfl) A ?_; refine aet 8 rfl (fun _ hS => eU rfl rfl) A ?_; refine aet 9 rfl (fun _ hS => aY rfl) A ?_; refine DU (t := 21) rfl (fun L => ?_) (fun L => ?_)
   ·refine lQ 10 rfl A ?_; refine lQ 11 rfl A ?_; refine bS [12] (by kernel_rfl) rfl ⟨?_, trivial⟩; refine bY rfl ?_; refine aN (aP (bN (.inl A) ?_)); refine lQ 13 rfl A ?_; refine aet 14 rfl (fun _ hS => dX rfl rfl) A ?_; refine aet 15 rfl (fun _ hS => aY rfl) A ?_; refine lQ 16 rfl A ?_; refine lQ 17 rfl A ?_; refine lQ 18 rfl A ?_; refine dQ 19 rfl rfl rfl rfl rfl (by kernel_rfl) (by kernel_rfl) (by kernel_rfl) rfl A ?_; refine dQ 20 rfl rfl rfl rfl rfl (by kernel_rfl) (by kernel_rfl) (by kernel_rfl) rfl A ?_; refine dQ 21 rfl rfl rfl rfl rfl (by kernel_rfl) (by kernel_rfl) (by kernel_rfl) rfl A ?_; refine dQ 22 rfl rfl rfl rfl rfl (by kernel_rfl) (by kernel_rfl) (by kernel_rfl) rfl A ?_; refine dQ 23 rfl rfl rfl rfl rfl (by kernel_rfl) (by kernel_rfl) (by kernel_rfl) rfl A ?_; refine dQ 24 rfl rfl rfl rfl rfl (by kernel_rfl) (by kernel_rfl) (by kernel_rfl) rfl A ?_; refine dQ 25 rfl rfl rfl rfl rfl (by kernel_rfl) (by kernel_rfl) (by kernel_rfl) rfl A ?_; refine dQ 26 rfl rfl rfl rfl rfl (by kernel_rfl) (by kernel_rfl) (by kernel_rfl) rfl A ?_
    refine dQ 27 rfl rfl rfl rfl rfl (by kernel_rfl) (by kernel_rfl) (by kernel_rfl) rfl A ?_; refine lQ 28 rfl A ?_; refine aet 29 rfl (fun _ hS => dX rfl rfl) A ?_; refine cV (by kernel_rfl) (aA ?_); refine dB rfl ?_; refine csr (wan (aH (aM (aE (aE (aM (aE (br1 ?_))))))))
    exact ⟨false, rfl, by simp only [Bool.false_eq_true, false_iff]; exact fun h => (h k hk').2.1 L, U⟩
   refine fG 10 rfl rfl rfl rfl rfl (by kernel_rfl) (by kernel_rfl) (by kernel_rfl) rfl (fun _ hS => aD rfl iF) A ?_; refine fG 11 rfl rfl rfl rfl rfl (by kernel_rfl) (by kernel_rfl) (by kernel_rfl) rfl (fun _ hS => aQ rfl dD (aV (hS.blk0 I) rfl)) A ?_; refine bS [12] (by kernel_rfl) rfl ⟨?_, trivial⟩; refine bY rfl ?_; refine aS ?_; refine aJ (vs := [_]) xJ rfl (utf_ok ls[k].2 (by omega)) rfl ?_; rintro _ c2 ⟨rfl, V⟩; have a5 := U.then V; have a6 := ((((a1.then a8).step a2 (Ge.new a1 a7).mem1).then M).then O).then V; have E := A.then V; refine aP (bN (.inl E) ?_); refine fG 13 rfl rfl rfl rfl rfl (by kernel_rfl) (by kernel_rfl) (by kernel_rfl) rfl (fun _ hS => fP rfl) E ?_; refine aet 14 rfl (fun _ hS => eU rfl rfl) E ?_; refine aet 15 rfl (fun _ hS => aY rfl) E ?_; refine ZS (t := 27) rfl (fun H => ?_) (fun H => ?_)
   ·refine lQ 16 rfl E ?_; refine lQ 17 rfl E ?_; refine lQ 18 rfl E ?_; refine dQ 19 rfl rfl rfl rfl rfl (by kernel_rfl) (by kernel_rfl) (by kernel_rfl) rfl E ?_; refine dQ 20 rfl rfl rfl rfl rfl (by kernel_rfl) (by kernel_rfl) (by kernel_rfl) rfl E ?_; refine dQ 21 rfl rfl rfl rfl rfl (by kernel_rfl) (by kernel_rfl) (by kernel_rfl) rfl E ?_; refine dQ 22 rfl rfl rfl rfl rfl (by kernel_rfl) (by kernel_rfl) (by kernel_rfl) rfl E ?_; refine dQ 23 rfl rfl rfl rfl rfl (by kernel_rfl) (by kernel_rfl) (by kernel_rfl) rfl E ?_; refine dQ 24 rfl rfl rfl rfl rfl (by kernel_rfl) (by kernel_rfl) (by kernel_rfl) rfl E ?_; refine dQ 25 rfl rfl rfl rfl rfl (by kernel_rfl) (by kernel_rfl) (by kernel_rfl) rfl E ?_; refine dQ 26 rfl rfl rfl rfl rfl (by kernel_rfl) (by kernel_rfl) (by kernel_rfl) rfl E ?_; refine dQ 27 rfl rfl rfl rfl rfl (by kernel_rfl) (by kernel_rfl) (by kernel_rfl) rfl E ?_; refine lQ 28 rfl E ?_; refine aet 29 rfl (fun _ hS => dX rfl rfl) E ?_; refine cV (by kernel_rfl) (aA ?_); refine dB rfl ?_; refine csr (wan (aH (aM (aE (aE (aM (aE (br1 ?_))))))))
    exact ⟨false, rfl, by simp only [Bool.false_eq_true, false_iff]; exact fun h => (by rw [(h k hk').2.2.1] at H; cases H), a5⟩
   refine fG 16 rfl rfl rfl rfl rfl (by kernel_rfl) (by kernel_rfl) (by kernel_rfl) rfl (fun _ hS => aY rfl) E ?_; refine fG 17 rfl rfl rfl rfl rfl (by kernel_rfl) (by kernel_rfl) (by kernel_rfl) rfl (fun _ hS => gF rfl rfl) E ?_; refine fG 18 rfl rfl rfl rfl rfl (by kernel_rfl) (by kernel_rfl) (by kernel_rfl) rfl (fun _ hS => aY rfl) E ?_; refine DU (t := 30) rfl (fun b5 => ?_) (fun b5 => ?_)
   ·obtain ⟨b2, o2, vs2, ha2, hb2, -, b9, rfl, hz3, hz4⟩ := e1 (k - 1) (by omega); refine fG 19 rfl rfl rfl rfl rfl (by kernel_rfl) (by kernel_rfl) (by kernel_rfl) rfl (fun _ hS => aY rfl) E ?_; refine fG 20 rfl rfl rfl rfl rfl (by kernel_rfl) (by kernel_rfl) (by kernel_rfl) rfl (fun _ hS => aY rfl) E ?_; refine fG 21 rfl rfl rfl rfl rfl (by kernel_rfl) (by kernel_rfl) (by kernel_rfl) rfl (fun _ hS => dG rfl rfl (by omega) (by omega)) E ?_
    refine fG 22 rfl rfl rfl rfl rfl (by kernel_rfl) (by kernel_rfl) (by kernel_rfl) rfl (fun _ hS => eW (n := k - 1) (by rw [ha2]; rfl) rfl (by omega) oE (by omega)) E ?_
    refine fG 23 rfl rfl rfl rfl rfl (by kernel_rfl) (by kernel_rfl) (by kernel_rfl) rfl (fun _ hS => aD rfl iG) E ?_; refine fG 24 rfl rfl rfl rfl rfl (by kernel_rfl) (by kernel_rfl) (by kernel_rfl) rfl (fun _ hS => aQ rfl dD ((b9.evo (a4.then hS) (by simp)) 0 _ rfl)) E ?_; refine fG 25 rfl rfl rfl rfl rfl (by kernel_rfl) (by kernel_rfl) (by kernel_rfl) rfl (fun _ hS => aD rfl iG) E ?_; refine fG 26 rfl rfl rfl rfl rfl (by kernel_rfl) (by kernel_rfl) (by kernel_rfl) rfl (fun _ hS => aQ rfl dD (aV (hS.blk0 I) rfl)) E ?_; refine fG 27 rfl rfl rfl rfl rfl (by kernel_rfl) (by kernel_rfl) (by kernel_rfl) rfl (fun _ hS => ex_sgeq rfl rfl) E ?_; refine fG 28 rfl rfl rfl rfl rfl (by kernel_rfl) (by kernel_rfl) (by kernel_rfl) rfl (fun _ hS => dX rfl rfl) E ?_; refine aet 29 rfl (fun _ hS => eU rfl rfl) E ?_; refine cV (by kernel_rfl) (aA ?_); refine bA rfl (fun W => ?_) (fun W => ?_)
    ·refine csr (wan (aH (aM (aE (aE (aM (aE (br1 ?_))))))))
     exact ⟨false, rfl, by simp only [Bool.false_eq_true, false_iff]; exact fun h => W ((h k hk').2.2.2 (k - 1) (by omega) (by omega)), a5⟩
    refine aL (aO (aA (aF ?_))); refine aC (aK rfl rfl (by omega) (by omega)) ?_; refine aB (aP (aW ?_)); refine ⟨k + 1, ?_, ⟨rfl, trivial⟩, ⟨rfl, rfl, rfl, trivial⟩, a6, ?_⟩
    · omega
    exact ⟨by omega, hok.succ hk' (Classical.not_not.1 J) L (by simpa using H) (fun j hj e => by subst e; exact Classical.not_not.1 W)⟩
   refine lQ 19 rfl E ?_; refine lQ 20 rfl E ?_; refine lQ 21 rfl E ?_; refine lQ 22 rfl E ?_; refine lQ 23 rfl E ?_; refine lQ 24 rfl E ?_; refine lQ 25 rfl E ?_; refine lQ 26 rfl E ?_; refine lQ 27 rfl E ?_; refine fG 28 rfl rfl rfl rfl rfl (by kernel_rfl) (by kernel_rfl) (by kernel_rfl) rfl (fun _ hS => eU rfl rfl) E ?_; refine aet 29 rfl (fun _ hS => eU rfl rfl) E ?_; refine cV (by kernel_rfl) (aA ?_); refine cM rfl ?_; refine aL (aO (aA (aF ?_))); refine aC (aK rfl rfl (by omega) (by omega)) ?_; refine aB (aP (aW ?_)); refine ⟨k + 1, ?_, ⟨rfl, trivial⟩, ⟨rfl, rfl, rfl, trivial⟩, a6, ?_⟩
   · omega
   exact ⟨by omega, hok.succ hk' (Classical.not_not.1 J) L (by simpa using H) (fun j hj e => by omega)⟩
  refine cJ (bH (bH (cI (aA ?_)))); refine csr (wan (aH (br1 ?_)))
  exact ⟨true, rfl, by simp only [true_iff]; exact fun i hi => hok i hi (by omega), a0⟩
end Go.Proofs.YtidpigbinpaaeaaGreat
namespace Go.Proofs.YtidpigbinpaaeaaGreat
open Go.RowKit Go.Shelf
attribute [local go_sem] Oper.semAt_some
def upto {α : Type} (f : Nat → α) (k : Nat) : List α := (List.range k).map f
theorem FK {α : Type} (f : Nat → α) (k : Nat) : upto f (k + 1) = upto f k ++ [f k] := by simp [upto, List.range_succ]
theorem MM {α : Type} (f : Nat → α) (k : Nat) : (upto f k).length = k := by simp [upto]
theorem upto_all (zs : List Int) : upto (fun j => zs[j]?.getD 0) zs.length = zs := by
  apply List.ext_getElem
  · simp [upto]
  · intro i h1 h2
    simp [upto, h2]
theorem XH (zs : List Int) {k : Nat} (hk : k ≤ zs.length) : upto (fun j => zs[j]?.getD 0) k = zs.take k := by
  apply List.ext_getElem
  · simp [upto, hk]
  · intro i h1 h2
    have : i < zs.length := by simp [upto] at h1; omega
    simp [upto, this]
set_option maxRecDepth 100000 in
set_option maxHeartbeats 2000000 in
theorem RF (F : Fence) (n : Nat) (h7 : F.fn 93) (hro : F.round = none) (hn : 1 ≤ n) (l Bs n₀ b off len cap : Nat) (zs : List Int) (hreach : len * 8 ≤ 140737488355328) (hb : b < n₀) (J Jx : List Int → World → Prop)
    (hY : ∀ pre x W, J pre W → pre.length < len → YieldAt F (n - 1) Tryz.prog l #[.int .i64 x] W fun e W' =>
      (e = .returned (.bool true) ∧ J (pre ++ [x]) W' ∧ Below n₀ W W') ∨ (e = .returned (.bool false) ∧ Jx (pre ++ [x]) W'))
    (W : World) (hBs : W.cell? ⟨Bs, 0, none⟩ = some (.slice (some ⟨b, off, none⟩) len cap)) (hc : ∀ j, j < len → W.cell? ⟨b, off + j, none⟩ = some (.int .i64 (zs[j]?.getD 0))) (h0 : J [] W) :
    CallsIn F n Tryz.prog 93 #[.func (.yield l) #[] #[], .pointer (some ⟨Bs, 0, none⟩)] W fun e W' => (∃ v, e = .returned v) ∧
      ((∃ ys, ys = upto (fun j => zs[j]?.getD 0) len ∧ J ys W') ∨ (∃ pre, (∃ k, k ≤ len ∧ pre = upto (fun j => zs[j]?.getD 0) k) ∧ Jx pre W')) := by
  refine callsIn_of_wp Tryz.func93 rfl h7 ?_ hro
  simp only [Tryz.ntmps93, List.size_toArray, List.length_cons, List.length_nil, Nat.reduceAdd, Nat.reduceSub, Array.replicate_succ, Array.replicate_zero, List.push_toArray, List.append_toArray, List.nil_append, List.cons_append]
  gi_wp2
  gi_loopw [7] (fun i wr => ∃ k : Nat, k ≤ len ∧ i = .int .i64 k ∧ J (upto (fun j => zs[j]?.getD 0) k) wr ∧ Below n₀ W wr)
    (fun i _ => len - (intOf i).toNat)
  case atStart => exact ⟨0, Nat.zero_le _, rfl, h0, Below.refl _ _⟩
  case round =>
    obtain ⟨k, hk, rfl, hJs, hnx⟩ := hrel
    have hcx : k < len → wr.cell? ⟨b, off + k, none⟩ = some (.int .i64 (zs[k]?.getD 0)) := fun h => (hnx.cell (p := ⟨b, off + k, none⟩) hb).trans (hc k h)
    by_cases hlt : k < len
    · obtain ⟨fn, tmps, assign, body, hy, hR⟩ := hY _ (zs[k]?.getD 0) wr hJs (by rw [MM]; exact hlt)
      have hcx' := hcx hlt
      gi_wp2
      refine hR.mono ?_
      rintro e W3 (⟨rfl, hJ3, hk3⟩ | ⟨rfl, hJx3⟩)
      · gi_wp2
        go_roundw
        case rel => exact ⟨k + 1, by omega, by simp, by rw [FK]; exact hJ3, hnx.trans hk3⟩
        case measure => simp [intOf]; omega
      · gi_wp2
        refine bodyPost_ret (results_none rfl _ _ _) rfl ?_
        exact ⟨⟨_, rfl⟩, .inr ⟨_, ⟨k + 1, by omega, (FK _ _).symm⟩, hJx3⟩⟩
    · obtain rfl : k = len := by omega
      gi_wp2
      go_end0
      exact ⟨⟨_, rfl⟩, .inl ⟨_, rfl, hJs⟩⟩
def Ints (n₀ : Nat) (W : World) (sv3 : Value) (zs : List Int) : Prop :=
  (zs = [] ∧ ∃ a cap, sv3 = .slice a 0 cap) ∨ ∃ b off cap, sv3 = .slice (some ⟨b, off, none⟩) zs.length cap ∧ b < n₀ ∧ ∀ j, j < zs.length → W.cell? ⟨b, off + j, none⟩ = some (.int .i64 (zs[j]?.getD 0))
theorem Ints.below {n₀ : Nat} {A B : World} (h : Below n₀ A B) {sv3 : Value} {zs : List Int} : Ints n₀ A sv3 zs → Ints n₀ B sv3 zs
  | .inl e => .inl e
  | .inr ⟨b, off, cap, e, hb, hc⟩ => .inr ⟨b, off, cap, e, hb, fun j hj => (h.cell (p := ⟨b, off + j, none⟩) hb).trans (hc j hj)⟩
set_option maxRecDepth 100000 in
set_option maxHeartbeats 1000000 in
theorem BB (F : Fence) (n : Nat) (h7 : F.fn 93) (hro : F.round = none) (l Bs : Nat) (a : Option Addr) (cap : Nat) (J : List Int → World → Prop) (W : World) (hBs : W.cell? ⟨Bs, 0, none⟩ = some (.slice a 0 cap)) (h0 : J [] W) :
    CallsIn F n Tryz.prog 93 #[.func (.yield l) #[] #[], .pointer (some ⟨Bs, 0, none⟩)] W fun e W' => (∃ v, e = .returned v) ∧ J [] W' := by
  refine callsIn_of_wp Tryz.func93 rfl h7 ?_ hro
  simp only [Tryz.ntmps93, List.size_toArray, List.length_cons, List.length_nil, Nat.reduceAdd, Nat.reduceSub, Array.replicate_succ, Array.replicate_zero, List.push_toArray, List.append_toArray, List.nil_append, List.cons_append]
  gi_wp2
  gi_loopw [7] (fun i wr => i = .int .i64 0 ∧ J [] wr) (fun _ _ => 0)
  case atStart => exact ⟨rfl, h0⟩
  case round =>
    obtain ⟨rfl, hJs⟩ := hrel
    gi_wp2
    go_end0
    exact ⟨⟨_, rfl⟩, hJs⟩
theorem HY (F : Fence) (n : Nat) (h7 : F.fn 93) (hro : F.round = none) (hn : 1 ≤ n) (Bs n₀ : Nat) (sv3 : Value) (zs : List Int) (hreach : zs.length * 8 ≤ 140737488355328) (w : World) (hBs : Bs < w.heap.size) (hn₀ : n₀ ≤ w.heap.size)
    (hc : w.cell? ⟨Bs, 0, none⟩ = some sv3) (hI : Ints n₀ w sv3 zs) :
    SeqStopsK F n Tryz.prog 93 #[.pointer (some ⟨Bs, 0, none⟩)] (fun x : Int => #[Value.int .i64 x]) (Below n₀) (fun ys => ys = zs) (fun pre => pre <+: zs) zs.length w := fun l J Jx W hW _ _ hY h0 => by
  have hc' := (hW.cell (p := ⟨Bs, 0, none⟩) hBs).trans hc
  rcases hI.below (hW.mono hn₀) with ⟨rfl, a, cap, rfl⟩ | ⟨b, off, cap, rfl, hb, hcs⟩
  · exact (BB F n h7 hro l Bs a cap J W hc' h0).mono fun e W' ⟨he, hj⟩ => ⟨he, .inl ⟨_, rfl, hj⟩⟩
  · refine (RF F n h7 hro hn l Bs n₀ b off zs.length cap zs hreach hb J Jx hY W hc' hcs h0).mono ?_
    rintro e W' ⟨he, ⟨ys, rfl, hj⟩ | ⟨pre, ⟨k, hk, rfl⟩, hj⟩⟩
    · exact ⟨he, .inl ⟨_, upto_all zs, hj⟩⟩
    · exact ⟨he, .inr ⟨_, by rw [XH zs hk]; exact List.take_prefix _ _, hj⟩⟩
theorem info3 : (Tryz.prog.info? 3).map (fun i => (i.zero, i.size, i.bytes)) = some (some (.int .i64 0), 1, 8) := by kernel_rfl
set_option maxRecDepth 100000 in
set_option maxHeartbeats 2000000 in
theorem JX (F : Fence) (n : Nat) (h59 : F.fn 115) (h50 : F.fn 93) (hro : F.round = none) (hn : 3 ≤ n) (Bs : Nat) (sv3 : Value) (zs : List Int) (hlen : zs.length ≤ maxLen) (hbytes : zs.length * 8 ≤ 140737488355328) (w : World) (hBs : w.cell? ⟨Bs, 0, none⟩ = some sv3) (hBl : Bs < w.heap.size) (hI : Ints w.heap.size w sv3 zs) :
    CallsIn F n Tryz.prog 115 #[.slice none 0 0, .func (.func 93) #[] #[.pointer (some ⟨Bs, 0, none⟩)]] w fun e W' => ∃ v, e = .returned v ∧ W'.ownsRow w.heap.size 3 1 v zs.length (zs.map (Value.int .i64)) ∧ (v = .slice none 0 0 ↔ zs = []) ∧ Below w.heap.size w W' := by
  have h1 : 1 ≤ n := by omega
  obtain ⟨i0, hi, hz0, hz1, hz2⟩ := info_parts info3
  refine callsIn_of_wp_marks Tryz.func115 rfl h59 ?_ hro
  simp only [Tryz.ntmps115, List.size_toArray, List.length_cons, List.length_nil, Nat.reduceAdd, Nat.reduceSub, Array.replicate_succ, Array.replicate_zero, List.push_toArray, List.append_toArray, List.nil_append, List.cons_append]
  gi_wp2
  have bO := Boxed.new w 37 (.slice none 0 0)
  have hB0 : Below w.heap.size w (w.alloc (.cells #[.slice none 0 0] 37)) := (Below.refl _ w).alloc (Nat.le_refl _) _
  refine wpIn_rangeFunc_ownG hro h1 (gf := 93) (lb := #[.pointer (some ⟨Bs, 0, none⟩)]) rfl h50 (enters_of Tryz.func93 (by kernel_rfl) rfl)
    (HY F (n - 1) h50 hro (by omega) Bs w.heap.size sv3 zs hbytes _ (by simp; omega) (by simp) ((hB0.cell (p := ⟨Bs, 0, none⟩) hBl).trans hBs) (hI.below hB0)) belowK_t (belowK_b (by simp)) (Below.refl _ _) (fun _ => rfl)
    (fun pre W => (∃ v, Boxed W w.heap.size 37 v ∧ W.ownsRow w.heap.size 3 1 v pre.length (pre.map (Value.int .i64)) ∧ (v = .slice none 0 0 ↔ pre = [])) ∧ Below w.heap.size w W)
    (fun _ _ _ => False)
    (OwnFrom.and (Own.from (holdsRow_own w.heap.size w.heap.size 37 3 1 (fun pre => pre.length) (fun pre => pre.map (Value.int .i64)) (fun pre v => v = .slice none 0 0 ↔ pre = [])) _) (ownFrom_below (Nat.le_refl _) (by simp)))
    (fun _ _ _ _ _ hs _ _ => hs)
    ⟨⟨_, bO, World.ownsRow_nil _ _ _ _, by simp⟩, hB0⟩
    (fun x => { tmps := #[.slice none 0 0, .func (.func 93) #[] #[.pointer (some ⟨Bs, 0, none⟩)], .pointer (some ⟨w.heap.size, 0, none⟩), undef, .slice none 0 0, .int .i64 x, .func (.func 93) #[] #[.pointer (some ⟨Bs, 0, none⟩)], .int .i64 x, undef, undef, undef, undef, undef], defers := [] }) ?assign ?body ?done ?stop
  case assign =>
    intro l x W K hK
    gi_wp2
    exact hK
  case body =>
    rintro l pre x W ⟨⟨v, hv, hrow, hnil⟩, hB⟩ hlt
    have hc := hv.cell
    gi_wp2_with (gi_at_builtin; refine wpListIn_append_own _ rfl _ _ 37 rfl w.heap.size 3 i0 (.int .i64 0) 1 8 Tryz.underlying37 hi hz0 hz1 hz2 rfl (by decide) _ _ _ rfl (hrow.alloc _) ⟨W.heap.size, 0, none⟩ 1 1 [.int .i64 x] rfl rfl (cell_one_new _ _ _) (by simp [Value.oneCell']) (by omega) (by omega) (by have := hB.size; simp; omega) ?_; intro v' w1 hown' hgrow _; obtain ⟨g', cap', rfl⟩ := ownsRow_succ hown'; obtain ⟨hv1, hv2, hr2, hk2, hb2⟩ := hv.appended (by decide) hrow hB.size (Nat.le_refl _) hown' hgrow; have hc1 := hv1.cell; have hf1 := hv1.frozen)
    exact ⟨hk2.from _, hb2, ⟨_, hv2, by simpa using hr2, by simp⟩, hB.trans hb2⟩
  case done =>
    rintro D ys W hD rfl ⟨⟨v, hv, hrow, hnil⟩, hB⟩ hK
    have hc := hv.cell
    gi_wp2
    refine ⟨by simp, .inl ⟨_, _, rfl, run_takeDeferred hK, ?_⟩⟩
    exact ⟨_, results_tmp rfl _ _ _, v, rfl, ownsRow_putObj hrow _ hK rfl, hnil, hB.trans (belowK_b (w := w) (Nat.le_refl _) W D _ _ (by simp at hD; omega) hK rfl rfl)⟩
  case stop =>
    rintro D c pre W _ _ h _
    exact h.elim
end Go.Proofs.YtidpigbinpaaeaaGreat
namespace Go.Proofs.YtidpigbinpaaeaaGreat
open Go.Shelf
def yS : Go.Shelf.Ren := ⟨fun | 189 => 60 | 125 => 91 | 257 => 90 | 128 => 113 | 129 => 114 | 294 => 105 | 295 => 106 | 296 => 107 | 297 => 108 | 298 => 109 | 299 => 110 | 216 => 94 | 300 => 111 | 301 => 112 | 328 => 137 | 329 => 138 | 330 => 139 | 331 => 140 | 332 => 141 | 215 => 116 | 343 => 156 | n => n, fun | 28 => 37 | 3 => 3 | 46 => 167 | 0 => 0 | 51 => 183 | 53 => 185 | 4 => 4 | 183 => 177 | 182 => 176 | 131 => 142 | 5 => 5 | 9 => 9 | 218 => 202 | 222 => 206 | 228 => 218 | 229 => 193 | n => n, fun | n => n⟩
theorem wY : Go.Proofs.Lays.n189 Tryz.prog yS := {
  mixed := by kernel_rfl
  f125 := Tryz.func91.trans (congrArg some (by kernel_rfl))
  f128 := Tryz.func113.trans (congrArg some (by kernel_rfl))
  f129 := Tryz.func114.trans (congrArg some (by kernel_rfl))
  f189 := Tryz.func60.trans (congrArg some (by kernel_rfl))
  f215 := Tryz.func116.trans (congrArg some (by kernel_rfl))
  f216 := Tryz.func94.trans (congrArg some (by kernel_rfl))
  f257 := Tryz.func90.trans (congrArg some (by kernel_rfl))
  f294 := Tryz.func105.trans (congrArg some (by kernel_rfl))
  f295 := Tryz.func106.trans (congrArg some (by kernel_rfl))
  f296 := Tryz.func107.trans (congrArg some (by kernel_rfl))
  f297 := Tryz.func108.trans (congrArg some (by kernel_rfl))
  f298 := Tryz.func109.trans (congrArg some (by kernel_rfl))
  f299 := Tryz.func110.trans (congrArg some (by kernel_rfl))
  f300 := Tryz.func111.trans (congrArg some (by kernel_rfl))
  f301 := Tryz.func112.trans (congrArg some (by kernel_rfl))
  f328 := Tryz.func137.trans (congrArg some (by kernel_rfl))
  f329 := Tryz.func138.trans (congrArg some (by kernel_rfl))
  f330 := Tryz.func139.trans (congrArg some (by kernel_rfl))
  f331 := Tryz.func140.trans (congrArg some (by kernel_rfl))
  f332 := Tryz.func141.trans (congrArg some (by kernel_rfl))
  f343 := Tryz.func156.trans (congrArg some (by kernel_rfl))
  t0 := Tryz.underlying0
  a0 := Tryz.isAgg0
  z0 := Tryz.sizeOf0
  v0 := Tryz.zeroValue0
  t3 := Tryz.underlying3
  a3 := Tryz.isAgg3
  z3 := Tryz.sizeOf3
  v3 := Tryz.zeroValue3
  t4 := Tryz.underlying4
  a4 := Tryz.isAgg4
  z4 := Tryz.sizeOf4
  v4 := Tryz.zeroValue4
  t5 := Tryz.underlying5
  a5 := Tryz.isAgg5
  z5 := Tryz.sizeOf5
  v5 := Tryz.zeroValue5
  t9 := Tryz.underlying9
  a9 := Tryz.isAgg9
  z9 := Tryz.sizeOf9
  v9 := Tryz.zeroValue9
  t28 := Tryz.underlying37
  a28 := Tryz.isAgg37
  z28 := Tryz.sizeOf37
  v28 := Tryz.zeroValue37
  t46 := Tryz.underlying167
  a46 := Tryz.isAgg167
  z46 := Tryz.sizeOf167
  v46 := Tryz.zeroValue167
  t51 := Tryz.underlying183
  a51 := Tryz.isAgg183
  z51 := Tryz.sizeOf183
  v51 := Tryz.zeroValue183
  t53 := Tryz.underlying185
  a53 := Tryz.isAgg185
  z53 := Tryz.sizeOf185
  v53 := Tryz.zeroValue185
  t131 := Tryz.underlying142
  a131 := Tryz.isAgg142
  z131 := Tryz.sizeOf142
  v131 := Tryz.zeroValue142
  t182 := Tryz.underlying176
  a182 := Tryz.isAgg176
  z182 := Tryz.sizeOf176
  v182 := Tryz.zeroValue176
  t183 := Tryz.underlying177
  a183 := Tryz.isAgg177
  z183 := Tryz.sizeOf177
  v183 := Tryz.zeroValue177
  t218 := Tryz.underlying202
  a218 := Tryz.isAgg202
  z218 := Tryz.sizeOf202
  v218 := Tryz.zeroValue202
  t222 := Tryz.underlying206
  a222 := Tryz.isAgg206
  z222 := Tryz.sizeOf206
  v222 := Tryz.zeroValue206
  t228 := Tryz.underlying218
  a228 := Tryz.isAgg218
  z228 := Tryz.sizeOf218
  v228 := Tryz.zeroValue218
  t229 := Tryz.underlying193
  a229 := Tryz.isAgg193
  z229 := Tryz.sizeOf193
  v229 := Tryz.zeroValue193 }
open Go.Sort Go.RowKit in
theorem uA (blk off cap : Nat) (zs : List Int) (w : World) (hH : Holds (Value.int .i64) w blk off zs.toArray) (hblk : blk < w.heap.size) (hsz : zs.length < 4611686018427387904) :
    Calls Tryz.prog 60 #[.slice (some ⟨blk, off, none⟩) zs.length cap] w fun e w' =>
      e = .returned (.tuple #[]) ∧ ∃ n os, w' = grow (putRow (Value.int .i64) (Sort.ahead w n) blk off (zs.mergeSort fun x y => decide (x ≤ y)).toArray) os := Any.slices_Sort_int wY blk off cap zs w hH hblk hsz
def wD : Go.Shelf.Ren := ⟨fun | 15 => 43 | n => n, fun | 22 => 37 | 3 => 3 | 4 => 4 | n => n, fun | n => n⟩
theorem uD : Go.Proofs.Lays2.n15 Tryz.prog wD := {
  mixed := by kernel_rfl
  f15 := Tryz.func43.trans (congrArg some (by kernel_rfl))
  t3 := Tryz.underlying3
  a3 := Tryz.isAgg3
  z3 := Tryz.sizeOf3
  v3 := Tryz.zeroValue3
  t4 := Tryz.underlying4
  a4 := Tryz.isAgg4
  z4 := Tryz.sizeOf4
  v4 := Tryz.zeroValue4
  t22 := Tryz.underlying37
  a22 := Tryz.isAgg37
  z22 := Tryz.sizeOf37
  v22 := Tryz.zeroValue37
  i3 := by kernel_rfl }
open Go.RowKit Go.Lib in
theorem tA (b off n c : Nat) (zs : List Int) (w : World) (hz : n ≤ zs.length) (hbig : n * 8 ≤ 140737488355328) (hc : ∀ j, j < zs.length → w.cell? ⟨b, off + j, none⟩ = some (.int .i64 (zs.getD j 0))) :
    Calls Tryz.prog 43 #[.slice (some ⟨b, off, none⟩) n c] w fun e w' => ∃ v', e = .returned v' ∧ w'.ownsRow w.heap.size 3 1 v' n ((zs.take n).map (Value.int .i64)) ∧ v' ≠ .slice none 0 0 ∧ Below w.heap.size w w' := Any.slices_Clone_int uD b off n c zs w hz hbig hc
open Go.RowKit Go.Lib in
theorem pL (n c : Nat) (w : World) :
    Calls Tryz.prog 43 #[.slice none n c] w fun e w' => e = .returned (.slice none 0 0) ∧ w' = w := Any.slices_Clone_int_nil uD n c w
def wC : Go.Shelf.Ren := ⟨fun | 20 => 62 | n => n, fun | 22 => 37 | 3 => 3 | 4 => 4 | 0 => 0 | n => n, fun | n => n⟩
theorem uC : Go.Proofs.Lays2.n20 Tryz.prog wC := {
  mixed := by kernel_rfl
  f20 := Tryz.func62.trans (congrArg some (by kernel_rfl))
  t0 := Tryz.underlying0
  a0 := Tryz.isAgg0
  z0 := Tryz.sizeOf0
  v0 := Tryz.zeroValue0
  t3 := Tryz.underlying3
  a3 := Tryz.isAgg3
  z3 := Tryz.sizeOf3
  v3 := Tryz.zeroValue3
  t4 := Tryz.underlying4
  a4 := Tryz.isAgg4
  z4 := Tryz.sizeOf4
  v4 := Tryz.zeroValue4
  t22 := Tryz.underlying37
  a22 := Tryz.isAgg37
  z22 := Tryz.sizeOf37
  v22 := Tryz.zeroValue37
  i3 := by kernel_rfl }
open Go.RowKit Go.Lib Go.Sort in
theorem rJ (blk off cap : Nat) (zs : List Int) (w : World) (hH : Holds (Value.int .i64) w blk off zs.toArray) (hsz : zs.length ≤ 9223372036854775807) (hcap : zs.length ≤ cap) :
    Calls Tryz.prog 62 #[.slice (some ⟨blk, off, none⟩) zs.length cap] w fun e w' => e = .returned (.slice (some ⟨blk, off, none⟩) (Lib.compact zs).length cap) ∧ ∃ q, w' = putRow (Value.int .i64) (Sort.ahead w q) blk off (Lib.compact zs ++ List.replicate (zs.length - (Lib.compact zs).length) 0).toArray := Any.slices_Compact_int uC blk off cap zs w hH hsz hcap
open Go.RowKit Go.Lib Go.Sort in
theorem nO (a : Option Addr) (cap : Nat) (w : World) :
    Calls Tryz.prog 62 #[.slice a 0 cap] w fun e w' => e = .returned (.slice a 0 cap) ∧ w' = w := Any.slices_Compact_int_empty uC a cap w
def wB : Go.Shelf.Ren := ⟨fun | 25 => 66 | 31 => 94 | 32 => 95 | 37 => 116 | n => n, fun | 22 => 37 | 3 => 3 | 4 => 4 | 40 => 167 | 0 => 0 | n => n, fun | n => n⟩
theorem uB : Go.Proofs.Lays2.n25 Tryz.prog wB := {
  mixed := by kernel_rfl
  f25 := Tryz.func66.trans (congrArg some (by kernel_rfl))
  f31 := Tryz.func94.trans (congrArg some (by kernel_rfl))
  f32 := Tryz.func95.trans (congrArg some (by kernel_rfl))
  f37 := Tryz.func116.trans (congrArg some (by kernel_rfl))
  t0 := Tryz.underlying0
  a0 := Tryz.isAgg0
  z0 := Tryz.sizeOf0
  v0 := Tryz.zeroValue0
  t3 := Tryz.underlying3
  a3 := Tryz.isAgg3
  z3 := Tryz.sizeOf3
  v3 := Tryz.zeroValue3
  t4 := Tryz.underlying4
  a4 := Tryz.isAgg4
  z4 := Tryz.sizeOf4
  v4 := Tryz.zeroValue4
  t22 := Tryz.underlying37
  a22 := Tryz.isAgg37
  z22 := Tryz.sizeOf37
  v22 := Tryz.zeroValue37
  t40 := Tryz.underlying167
  a40 := Tryz.isAgg167
  z40 := Tryz.sizeOf167
  v40 := Tryz.zeroValue167 }
open Go.RowKit Go.Lib in
theorem nU (b off n c : Nat) (zs : List Int) (x : Int) (w : World) (hz : n ≤ zs.length) (hbig : n < 4611686018427387904) (hc : ∀ j, j < zs.length → w.cell? ⟨b, off + j, none⟩ = some (.int .i64 (zs.getD j 0))) (hs : (zs.take n).Pairwise (· ≤ ·)) :
    Calls Tryz.prog 66 #[.slice (some ⟨b, off, none⟩) n c, .int .i64 x] w fun e w' => e = .returned (.tuple #[.int .i64 ((zs.take n).countP (· < x) : Nat), .bool ((zs.take n).contains x)]) ∧ ∃ q, w' = w.drewN q := Any.slices_BinarySearch_int uB b off n c zs x w hz hbig hc hs
open Go.RowKit Go.Sort in
theorem pK (p : Option Addr) (cap : Nat) (w : World) :
    Calls Tryz.prog 60 #[.slice p 0 cap] w fun e w' => e = .returned (.tuple #[]) ∧ w' = w := Any.slices_Sort_int_none wY p cap w
open Go.RowKit Go.Lib in
theorem lI (a : Option Addr) (c : Nat) (x : Int) (w : World) :
    Calls Tryz.prog 66 #[.slice a 0 c, .int .i64 x] w fun e w' => e = .returned (.tuple #[.int .i64 0, .bool false]) ∧ w' = w := Any.slices_BinarySearch_int_empty uB a c x w
end Go.Proofs.YtidpigbinpaaeaaGreat
namespace Go.Proofs.YtidpigbinpaaeaaGreat
open Go.W
abbrev iv3 (z : Int) : Value := .int .i64 z
def RZ : Rel Int := fun _ _ vs z => vs = [iv3 z]
theorem RZ.pers : RZ.Pers := fun _ _ _ _ _ _ h => h
theorem RZ.fresh : RZ.Fresh := fun _ _ _ _ _ _ h => h
theorem RZ.one : ∀ X w vs d, RZ X w vs d → ∀ u, u ∈ vs → u.oneCell' = true := fun _ _ _ _ h u hu => by cases h; simp at hu; subst hu; rfl
theorem kY {X : List Nat} {w : World} {e : TypeId} {a : Option Addr} {n c : Nat} {l : List Int} {ob : Option Nat} (h : OwnS w e 1 a n c (l.map iv3) ob) (hx : ∀ g, ob = some g → g ∉ X) : RSl 1 RZ X w (.slice a n c) l := by
  have e1 : (l.map fun z => [iv3 z]).flatten = l.map iv3 := by clear h; induction l with | nil => rfl | cons z l ih => simpa using ih
  have hl := h.length
  rw [← e1] at h
  exact RSl.ofOwn h ⟨by simp, fun k h1 h2 => by simp only [List.getElem_map]; exact ⟨rfl, rfl⟩⟩ (by simpa using hl) hx
theorem oZ {w : World} {e : TypeId} {a : Option Addr} {n c : Nat} {l : List Int} {ob : Option Nat} (h : OwnS w e 1 a n c (l.map iv3) ob) : n = l.length := by have := h.length; simpa using this.symm
theorem UX {w w' : World} {v : Value} {n : Nat} {xs : List Value} (h : w'.ownsRow w.heap.size 3 1 v n xs) : ∃ a c ob, v = .slice a n c ∧ OwnS w' 3 1 a n c xs ob ∧ Ge w ob := by
  obtain ⟨hl, h⟩ := h
  rcases h with ⟨rfl, rfl⟩ | ⟨g, cap, cur, rfl, hg, hb, hn, hc, hs, ht⟩
  · exact ⟨none, 0, none, rfl, ⟨hl, .inl ⟨rfl, rfl, rfl⟩⟩, Ge.nil _⟩
  · exact ⟨_, cap, some g, rfl, ⟨hl, .inr ⟨g, cap, cur, rfl, rfl, hb, hn, hc, hs, ht⟩⟩, fun g' e => by cases e; exact hg⟩
theorem HK {w w' : World} (h : RowKit.Below w.heap.size w w') : Evo [] w w' := ⟨h.os, h.tape, h.output, h.size, fun b hb _ => h.block b hb⟩
theorem WG (w : World) (g n : Nat) (d : Array Int) (os : Array Obj) : Evo [g] w (Sort.grow (Sort.putRow (Value.int .i64) (Sort.ahead w n) g 0 d) os) := by
  refine ⟨rfl, rfl, rfl, ?_, fun b hb hx => ?_⟩
  · simp [Sort.grow, Sort.putRow, Sort.mapBlock, Sort.ahead]
  · have hne : g ≠ b := fun e => hx (by simp [e])
    simp only [Sort.grow, Sort.putRow, Sort.mapBlock, Sort.ahead]
    rw [Array.getElem?_append_left (by simpa using hb), Array.getElem?_modify, if_neg hne]
theorem row_blk {w : World} {g : Nat} {cur : Array Value} {e : TypeId} (hb : w.heap[g]? = some (.cells cur e (0, 0))) (n : Nat) (d : Array Int) (os : Array Obj) :
    (Sort.grow (Sort.putRow (Value.int .i64) (Sort.ahead w n) g 0 d) os).heap[g]? = some (.cells (Sort.putCells (Value.int .i64) 0 d cur) e (0, 0)) := by
  have hlt := dK hb
  simp only [Sort.grow, Sort.putRow, Sort.mapBlock, Sort.ahead]
  rw [Array.getElem?_append_left (by simpa using hlt), Array.getElem?_modify, if_pos rfl, hb]
  rfl
theorem EE (cur : Array Value) (ds : List Int) (m : Nat) (hm : m ≤ ds.length) (hc : ds.length ≤ cur.size) : (Sort.putCells (Value.int .i64) 0 ds.toArray cur).toList.take m = (ds.take m).map iv3 := by
  apply List.ext_getElem?
  intro k
  by_cases hk : k < m
  · rw [List.getElem?_take, if_pos hk]
    simp only [Sort.putCells, Array.getElem?_toList, Array.getElem?_mapIdx, List.getElem?_map, List.getElem?_take, if_pos hk]
    have h1 : k < cur.size := by omega
    have h2 : k < ds.length := by omega
    simp [h1, h2, iv3, show k < 0 + ds.length by omega]
  · rw [List.getElem?_eq_none (by simp; omega), List.getElem?_eq_none (by simp; omega)]
theorem NE {w : World} {e : TypeId} {g n c m : Nat} {xs : List Value} {ds : List Int} (h : OwnS w e 1 (some ⟨g, 0, none⟩) n c xs (some g)) (hd : ds.length = n) (hm : m ≤ n) (q : Nat) (os : Array Obj) :
    OwnS (Sort.grow (Sort.putRow (Value.int .i64) (Sort.ahead w q) g 0 ds.toArray) os) e 1 (some ⟨g, 0, none⟩) m c ((ds.take m).map iv3) (some g) := by
  refine ⟨by simp; omega, ?_⟩
  rcases h.2 with ⟨h1, _⟩ | ⟨g', cap, cur, hg, hv, hb, hn, hc, hs, ht⟩
  · cases h1
  · cases hg; cases hv
    refine .inr ⟨g, c, _, rfl, rfl, row_blk hb q ds.toArray os, by omega, hc, by simpa [Sort.putCells] using hs, ?_⟩
    rw [Nat.mul_one]
    exact EE cur ds m (by omega) (by omega)
theorem GD {w : World} {e : TypeId} {g n c : Nat} {zs : List Int} (h : OwnS w e 1 (some ⟨g, 0, none⟩) n c (zs.map iv3) (some g)) : Sort.Holds (Value.int .i64) w g 0 zs.toArray := fun j hj => by
  have hj' : j < zs.length := by simpa using hj
  have hn := oZ h
  obtain ⟨g', cur, hg, ha, hb, hs, ht⟩ := h.at (by omega)
  cases hg
  constructor
  · refine eY hb ?_
    have h1 : (cur.toList.take (n * 1))[j]? = some (iv3 zs[j]) := by rw [ht]; simp [hj']
    rw [List.getElem?_take, if_pos (by omega)] at h1
    rw [Nat.zero_add]
    simpa [hj'] using h1
  · simp [World.frozen?, hb]
theorem GE {w : World} {e : TypeId} {g n c : Nat} {zs : List Int} {ob : Option Nat} (h : OwnS w e 1 (some ⟨g, 0, none⟩) n c (zs.map iv3) ob) : ∀ j, j < zs.length → w.cell? ⟨g, 0 + j, none⟩ = some (.int .i64 (zs.getD j 0)) := fun j hj => by
  have hn := oZ h
  obtain ⟨g', hg, ha, hc⟩ := h.cells (by omega)
  cases ha
  have := hc j (iv3 zs[j]) (by simp [hj])
  simpa [hj] using this
def SR3 (l : List Int) : Prop := l.Pairwise (· < ·)
theorem SR3.ext : ∀ {l r : List Int}, SR3 l → SR3 r → (∀ x, x ∈ l ↔ x ∈ r) → l = r
  | [], [], _, _, _ => rfl
  | [], y :: r, _, _, h => absurd ((h y).2 (List.mem_cons_self ..)) (by simp)
  | x :: l, [], _, _, h => absurd ((h x).1 (List.mem_cons_self ..)) (by simp)
  | x :: l, y :: r, hl, hr, h => by
    have hl1 := List.pairwise_cons.1 hl
    have hr1 := List.pairwise_cons.1 hr
    have hxy : x = y := by
      have h1 := (h x).1 (List.mem_cons_self ..)
      have h2 := (h y).2 (List.mem_cons_self ..)
      rcases List.mem_cons.1 h1 with h1 | h1
      · exact h1
      · rcases List.mem_cons.1 h2 with h2 | h2
        · exact h2.symm
        · have := hr1.1 x h1
          have := hl1.1 y h2
          omega
    subst hxy
    congr 1
    refine SR3.ext hl1.2 hr1.2 fun z => ⟨fun hz => ?_, fun hz => ?_⟩
    · rcases List.mem_cons.1 ((h z).1 (List.mem_cons_of_mem _ hz)) with e | e
      · subst e; have := hl1.1 z hz; omega
      · exact e
    · rcases List.mem_cons.1 ((h z).2 (List.mem_cons_of_mem _ hz)) with e | e
      · subst e; have := hr1.1 z hz; omega
      · exact e
theorem TT {zs : List Int} (hs : zs.Pairwise (· ≤ ·)) : SR3 (Lib.compact zs) ∧ ∀ x, x ∈ Lib.compact zs ↔ x ∈ zs := by
  have hle : ∀ i j (hi : i < zs.length) (hj : j < zs.length), i ≤ j → zs[i] ≤ zs[j] := fun i j hi hj hij => by
    rcases Nat.lt_or_eq_of_le hij with h | h
    · exact (List.pairwise_iff_getElem.1 hs) i j hi hj h
    · subst h; exact Int.le_refl _
  have hget : ∀ i (hi : i < zs.length), zs.toArray[i]! = zs[i] := fun i hi => by simp [hi]
  constructor
  · unfold SR3 Lib.compact Lib.compactUpTo
    rw [List.pairwise_map]
    have hp : ((List.range zs.length).filter (Lib.keeps zs.toArray)).Pairwise (· < ·) := List.Pairwise.filter _ List.pairwise_lt_range
    refine List.Pairwise.imp_of_mem ?_ hp
    intro a b ha hb hab
    have hb1 := List.mem_filter.1 hb
    have ha1 := List.mem_filter.1 ha
    have hb2 : b < zs.length := List.mem_range.1 hb1.1
    have ha2 : a < zs.length := List.mem_range.1 ha1.1
    have hk := hb1.2
    simp only [Lib.keeps, decide_eq_true_eq] at hk
    rw [hget a ha2, hget b hb2]
    rcases hk with h | h
    · omega
    · rw [hget b hb2, hget (b - 1) (by omega)] at h
      have h1 := hle a (b - 1) ha2 (by omega) (by omega)
      have h2 := hle (b - 1) b (by omega) hb2 (by omega)
      omega
  · intro x
    unfold Lib.compact Lib.compactUpTo
    simp only [List.mem_map, List.mem_filter, List.mem_range]
    constructor
    · rintro ⟨i, ⟨hi, _⟩, rfl⟩
      rw [hget i hi]
      exact List.getElem_mem _
    · intro hx
      obtain ⟨i, hi, rfl⟩ := List.getElem_of_mem hx
      induction i using Nat.strongRecOn with
      | _ i ih =>
        by_cases hk : Lib.keeps zs.toArray i = true
        · exact ⟨i, ⟨hi, hk⟩, hget i hi⟩
        · simp only [Lib.keeps, decide_eq_true_eq, not_or, Decidable.not_not] at hk
          have h1 : zs[i] = zs[i - 1]'(by omega) := by have := hk.2; rwa [hget i hi, hget (i - 1) (by omega)] at this
          obtain ⟨j, hj, he⟩ := ih (i - 1) (by omega) (by omega) (List.getElem_mem _)
          exact ⟨j, hj, by rw [he, h1]⟩
theorem wQ (zs : List Int) : (Lib.compact zs).length ≤ zs.length := by
  unfold Lib.compact Lib.compactUpTo
  have := List.length_filter_le (Lib.keeps zs.toArray) (List.range zs.length)
  simpa using this
theorem sort_le (zs : List Int) : (zs.mergeSort fun x y => decide (x ≤ y)).Pairwise (· ≤ ·) := by
  have := List.pairwise_mergeSort (le := fun x y : Int => decide (x ≤ y)) (by intro a b c h1 h2; simp at *; omega) (by intro a b; simp; omega) zs
  exact this.imp (by intro a b h; simpa using h)
theorem SR3.filter {l : List Int} (h : SR3 l) (p : Int → Bool) : SR3 (l.filter p) := List.Pairwise.filter p h
theorem SR3.le {l : List Int} (h : SR3 l) : l.Pairwise (· ≤ ·) := h.imp (by intro a b h; omega)
end Go.Proofs.YtidpigbinpaaeaaGreat
