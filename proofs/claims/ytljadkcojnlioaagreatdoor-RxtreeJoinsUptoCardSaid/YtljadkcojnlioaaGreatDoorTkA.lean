/- Joins: part 1 of 6 of what the law rests on. -/
import Derived.Test.YtljadkcojnlioaaGreatDoorRows
import Derived.Test.YtljadkcojnlioaaGreatDoorTie
import Derived.WalkKit
import Derived.OrdersHeld
import Derived.Deep.LoopGhost
import Derived.Deep.Quiet
import Derived.KernelRfl
import Derived.ProofKit
import Derived.OpenShut
import Derived.SizedLaws
import Derived.ChangeOld
import Derived.Shelf.Strings.Builder1
import Derived.Shelf.Small.Bits
import Derived.Shelf.Small.Strs
import Derived.Shelf.Strings.BuilderF
import Derived.Shelf.Strings.BuilderK
import Derived.Shelf.Strings.BuilderRune
import Derived.Shelf.Strconv.Itoa0
import Derived.Shelf.Strconv.Itoa1
import Derived.Shelf.LaysM
import Derived.Shelf.Strconv.Itoa2
import Derived.Shelf.Strconv.Itoa3
import Derived.Shelf.Strings.Search1
import Derived.Shelf.Strings.Search2
import Derived.Shelf.Strings.Search3
import Derived.Shelf.Strings.Shaped
import Derived.Shelf.Strings.Prefix
import Derived.Test.YtljadkcojnlioaaGreatDoorProg
import Derived.Shelf.SlSortCmp.WholeK
import Derived.Ground.SlsfProg
import Derived.Laws.MakeOwn
import Derived.Laws.OwnMore
import Derived.Laws.BytesString
import Derived.Laws.RangeAny
import Derived.Laws.Strings2
import Derived.Laws.Slices
import Derived.Laws.Small
import Derived.Laws.Concat
import Derived.Lib.DecodeN
import Derived.Scope
import Derived.RangeFuncNested
import Derived.RangeFuncLeaves
import Derived.RangeFuncCalls
import Derived.TacticsIn
import Derived.OwnWalkIn
import Derived.Maps.RangeRun
import Derived.WalkSmall
import Derived.Recover
import Derived.Lib.AppendStr
import Derived.Shelf.Strings.Builder2
import Derived.Lib.TrailingZeros
import Derived.Shelf.GgSortFunc.RowK
import Derived.Shelf.SlSortCmp.NoneTotal
import Derived.Lib.Index
import Derived.Lib.ItoaNum
import Derived.JoinedCond
import Derived.Deep.DeepHandedRow
import Derived.Lib.LaidTab
import Derived.Lay
import Derived.Test.YtljadkcojnlioaaGreatDoorCards
import Derived.Shelf.Sort.Plain
import Derived.Shelf.Slices.CompactS
import Derived.Shelf.Slices.In.SortNone
import Derived.Shelf.Slices.Cells
import Derived.Shelf.Slices.Clone
import Derived.Lib.Repeat
set_option linter.unusedSectionVars false
set_option linter.unusedSimpArgs false
set_option linter.unusedVariables false
namespace Go.W
theorem cR : (∀ {α : Type} (l : List α) (i : Nat) (a : α), l.toArray.setIfInBounds i a = (l.set i a).toArray) ∧ (∀ {α : Type} (x a : α) (l : List α), (x :: l).set 0 a = a :: l) ∧ (∀ {α : Type} (x a : α) (l : List α) (n : Nat), (x :: l).set (n + 1) a = x :: l.set n a) ∧ (∀ n : Nat, 0 + n = n) ∧ (∀ n : Nat, n + 0 = n) := ⟨fun _ _ _ => List.setIfInBounds_toArray .., fun _ _ _ => rfl, fun _ _ _ _ => rfl, Nat.zero_add, Nat.add_zero⟩
abbrev Env := List (Nat × Value)
def Env.get : Env → Nat → Option Value
  | [], _ => none
  | (k, v) :: r, t => cond (Nat.beq k t) (some v) (Env.get r t)
def Env.ev (σ : Env) : Operand → Option Value
  | .tmp t => σ.get t
  | .const v => some v
  | .global g => some (.pointer (some ⟨g, 0, none⟩))
  | .func f => some (.func (.func f) #[] #[])
abbrev NN := Nat × List Deferred
def Fits (N : NN) (σ : Env) (a : Act) : Prop := a.tmps.size = N.1 ∧ a.defers = N.2 ∧ ∀ t v, σ.get t = some v → a.tmps.getD t undef = v
def EW (σ : Env) (ρ : Operand → Value) : Prop := ∀ x v, σ.ev x = some v → ρ x = v
theorem Fits.agrees {N : NN} {σ : Env} {a : Act} (h : Fits N σ a) : EW σ a.eval := by
  intro x v hx
  cases x with
  | tmp t => exact h.2.2 t v hx
  | const u => simp only [Env.ev, Option.some.injEq] at hx; exact hx
  | global g => simp only [Env.ev, Option.some.injEq] at hx; exact hx
  | func f => simp only [Env.ev, Option.some.injEq] at hx; exact hx
theorem Fits.put {N : NN} {σ : Env} {a : Act} (h : Fits N σ a) {d : Nat} (hd : d < N.1) (v : Value) : Fits N ((d, v) :: σ) (a.put (some d) v) := by
  refine ⟨by simp [Act.put, h.1], h.2.1, fun t u hu => ?_⟩
  simp only [Env.get] at hu
  cases hk : Nat.beq d t with
  | true =>
    rw [hk] at hu
    have : d = t := Nat.eq_of_beq_eq_true hk
    subst this
    simp only [cond_true, Option.some.injEq] at hu
    have hs : d < a.tmps.size := by rw [h.1]; exact hd
    simp [Act.put, hs, hu]
  | false =>
    rw [hk] at hu
    have hne : d ≠ t := Nat.ne_of_beq_eq_false hk
    have := h.2.2 t u hu
    simp only [Act.put, Array.getD_eq_getD_getElem?, Array.getElem?_setIfInBounds_ne hne] at this ⊢
    exact this
def Sub : Env → Env → Prop
  | [], _ => True
  | (k, v) :: r, σ => σ.get k = some v ∧ Sub r σ
theorem Sub.get {S σ : Env} (h : Sub S σ) : ∀ t v, S.get t = some v → σ.get t = some v := by
  induction S with
  | nil => intro t v hv; cases hv
  | cons p r ih =>
    obtain ⟨k, u⟩ := p
    intro t v hv
    simp only [Env.get] at hv
    cases hk : Nat.beq k t with
    | true =>
      rw [hk] at hv
      have : k = t := Nat.eq_of_beq_eq_true hk
      subst this
      simp only [cond_true, Option.some.injEq] at hv
      subst hv
      exact h.1
    | false => rw [hk] at hv; exact ih h.2 t v hv
theorem Fits.sub {N : NN} {S σ : Env} {a : Act} (hs : Sub S σ) (h : Fits N σ a) : Fits N S a :=
  ⟨h.1, h.2.1, fun t v hv => h.2.2 t v (hs.get t v hv)⟩
theorem Env.get_append {A B : Env} : ∀ t v, (A ++ B).get t = some v → A.get t = some v ∨ (A.get t = none ∧ B.get t = some v) := by
  induction A with
  | nil => intro t v h; exact .inr ⟨rfl, h⟩
  | cons p r ih =>
    obtain ⟨k, u⟩ := p
    intro t v h
    simp only [List.cons_append, Env.get] at h ⊢
    cases hk : Nat.beq k t with
    | true => rw [hk] at h; exact .inl h
    | false => rw [hk] at h; exact ih t v h
theorem Fits.app {N : NN} {A B σ τ : Env} {a : Act} (hA : Sub A σ) (hB : Sub B τ) (h : Fits N σ a) (h' : Fits N τ a) : Fits N (A ++ B) a :=
  ⟨h.1, h.2.1, fun t v hv => by
    rcases Env.get_append t v hv with h1 | ⟨_, h1⟩
    · exact h.2.2 t v (hA.get t v h1)
    · exact h'.2.2 t v (hB.get t v h1)⟩
abbrev kK := Exit → NN → Env → World → Prop
def toQ (R : kK) : Exit → Act → World → Prop
  | .panic c, a, w => ∃ N σ, Fits N σ a ∧ R (.panic c) N σ w
  | .outgrown, _, w => ∃ N : NN, R .outgrown N [] w
  | .normal, a, w => ∃ N σ, Fits N σ a ∧ R .normal N σ w
  | .exit i, a, w => ∃ N σ, Fits N σ a ∧ R (.exit i) N σ w
  | .goto l, a, w => ∃ N σ, Fits N σ a ∧ R (.goto l) N σ w
  | .ret, a, w => ∃ N σ, Fits N σ a ∧ R .ret N σ w
def CW (P : Program) (N : NN) (c : Code) (R : kK) (σ : Env) (w : World) : Prop := ∀ a, Fits N σ a → c.wp P (toQ R) a w
def sK (K : NN → Env → World → Prop) (R : kK) : kK
  | .normal, N, σ, w => K N σ w
  | .exit i, N, σ, w => R (.exit i) N σ w
  | .goto l, N, σ, w => R (.goto l) N σ w
  | .ret, N, σ, w => R .ret N σ w
  | .panic c, N, σ, w => R (.panic c) N σ w
  | .outgrown, N, σ, w => R .outgrown N σ w
def vJ (id : Nat) (R : kK) : kK
  | .exit i, N, σ, w => cond (Nat.beq i id) (R .normal N σ w) (R (.exit i) N σ w)
  | .normal, N, σ, w => R .normal N σ w
  | .goto l, N, σ, w => R (.goto l) N σ w
  | .ret, N, σ, w => R .ret N σ w
  | .panic c, N, σ, w => R (.panic c) N σ w
  | .outgrown, N, σ, w => R .outgrown N σ w
section
variable {P : Program} {N : NN} {R : kK} {σ : Env} {w : World}
theorem aE {x y : Code} (h : CW P N x (sK (fun N σ w => CW P N y R σ w) R) σ w) : CW P N (.seq x y) R σ w := by
  intro a ha
  refine wp_seq (wp_mono (h a ha) ?_)
  intro e a' w' hq
  cases e with
  | normal => obtain ⟨N', σ', hf, hk⟩ := hq; exact hk a' hf
  | exit i => exact hq
  | goto l => exact hq
  | ret => exact hq
  | panic c => exact hq
  | outgrown => exact hq
theorem bR {id : Nat} {c : Code} (h : CW P N c (vJ id R) σ w) : CW P N (.block id c) R σ w := by
  intro a ha
  refine wp_block (wp_mono (h a ha) ?_)
  intro e a' w' hq
  cases e with
  | normal => exact hq
  | exit i =>
    obtain ⟨N', σ', hf, hk⟩ := hq
    simp only [vJ] at hk
    simp only [Exit.inBlock]
    cases hb : Nat.beq i id with
    | true =>
      rw [hb] at hk
      rw [if_pos (Nat.eq_of_beq_eq_true hb)]
      exact ⟨N', σ', hf, hk⟩
    | false =>
      rw [hb] at hk
      rw [if_neg (Nat.ne_of_beq_eq_false hb)]
      exact ⟨N', σ', hf, hk⟩
  | goto l => exact hq
  | ret => exact hq
  | panic c => exact hq
  | outgrown => exact hq
theorem aU (h : R .normal N σ w) : CW P N .skip R σ w := fun _ ha => wp_skip ⟨N, σ, ha, h⟩
theorem dO {i : Nat} (h : R (.exit i) N σ w) : CW P N (.exit i) R σ w := fun _ ha => wp_exit ⟨N, σ, ha, h⟩
theorem aO (h : R .ret N σ w) : CW P N .ret R σ w := fun _ ha => wp_ret ⟨N, σ, ha, h⟩
theorem bF {c : Operand} {x y : Code} {p : Prop} [Decidable p] (hc : σ.ev c = some (.bool (decide p))) (ht : p → CW P N x R σ w) (hf : ¬ p → CW P N y R σ w) : CW P N (.cond c x y) R σ w := by
  intro a ha
  refine wp_cond_split (ha.agrees c _ hc) (fun h => ht (of_decide_eq_true h) a ha) (fun h => hf (of_decide_eq_false h) a ha)
theorem fW {c : Operand} {x y : Code} {b : Bool} (hc : σ.ev c = some (.bool b)) (ht : b = true → CW P N x R σ w) (hf : b = false → CW P N y R σ w) : CW P N (.cond c x y) R σ w := by
  intro a ha
  exact wp_cond_split (ha.agrees c _ hc) (fun h => ht h a ha) (fun h => hf h a ha)
theorem cV {c : Operand} {x y : Code} (hc : σ.ev c = some (.bool true)) (h : CW P N x R σ w) : CW P N (.cond c x y) R σ w :=
  fun a ha => wp_cond_true (ha.agrees c _ hc) (h a ha)
theorem cO {c : Operand} {x y : Code} (hc : σ.ev c = some (.bool false)) (h : CW P N y R σ w) : CW P N (.cond c x y) R σ w :=
  fun a ha => wp_cond_false (ha.agrees c _ hc) (h a ha)
theorem eV {c : Code} {α : Type} (x0 : α) (M : α → Env) (C : Env) (Φ : α → World → Prop) (μ : α → Nat) (hM : Sub (M x0) σ) (hC : Sub C σ) (h0 : Φ x0 w)
    (round : ∀ x w, Φ x w → CW P N c (sK (fun N' σ' w' => N' = N ∧ ∃ x', μ x' < μ x ∧ Sub (M x') σ' ∧ Sub C σ' ∧ Φ x' w') R) (M x ++ C) w) : CW P N (.loop c) R σ w := by
  intro a ha
  refine wp_loop_ghost (fun n a w => ∃ x, μ x = n ∧ Fits N (M x ++ C) a ∧ Φ x w) (μ x0) ⟨x0, rfl, Fits.app hM hC ha ha, h0⟩ ?_
  rintro n a w ⟨x, rfl, hf, hx⟩
  refine wp_mono (round x w hx a hf) ?_
  intro e a' w' hq
  cases e with
  | normal =>
    obtain ⟨N', σ', hf', rfl, x', hlt, hM', hC', hΦ⟩ := hq
    exact ⟨μ x', hlt, x', rfl, Fits.app hM' hC' hf' hf', hΦ⟩
  | exit i => exact hq
  | goto l => exact hq
  | ret => exact hq
  | panic c => exact hq
  | outgrown => exact hq
theorem aA {K : NN → Env → World → Prop} (h : K N σ w) : sK K R .normal N σ w := h
theorem bY {K : Env → World → Prop} (h : K σ w) : sK (fun N' σ' w' => N' = N ∧ K σ' w') R .normal N σ w := ⟨rfl, h⟩
theorem aW {id : Nat} (h : R .normal N σ w) : vJ id R .normal N σ w := h
theorem aN {K : NN → Env → World → Prop} (h : R .ret N σ w) : sK K R .ret N σ w := h
theorem aX {id : Nat} (h : R .ret N σ w) : vJ id R .ret N σ w := h
theorem cD {K : NN → Env → World → Prop} {i : Nat} (h : R (.exit i) N σ w) : sK K R (.exit i) N σ w := h
theorem dN {i : Nat} (h : R .normal N σ w) : vJ i R (.exit i) N σ w := by
  show cond (Nat.beq i i) _ _
  rw [show Nat.beq i i = true from Nat.beq_refl i]
  exact h
theorem CS {i id : Nat} (hne : Nat.beq i id = false) (h : R (.exit i) N σ w) : vJ id R (.exit i) N σ w := by
  show cond (Nat.beq i id) _ _
  rw [hne]
  exact h
end
section
variable {P : Program} {σ : Env} {w : World}
def Ret (Φ : Value → World → Prop) : Ending → World → Prop := fun e w' => ∃ v, e = .returned v ∧ Φ v w'
def oE (P : Program) (fn : Func) (E : Ending → World → Prop) : kK
  | .normal, N, σ, w => N.2 = [] ∧ ∀ a, Fits (a.tmps.size, a.defers) σ a → ∃ v, (results fn a.tmps).run P w = .ok v w ∧ E (.returned v) w
  | .ret, N, σ, w => N.2 = [] ∧ ∀ a, Fits (a.tmps.size, a.defers) σ a → ∃ v, (results fn a.tmps).run P w = .ok v w ∧ E (.returned v) w
  | .panic chain, N, _, w => N.2 = [] ∧ E (.panicked chain) w
  | .outgrown, _, _, w => E .outgrown w
  | .exit _, _, _, _ => False
  | .goto _, _, _, _ => False
def nY (k : Nat) : List Value → Env
  | [] => []
  | v :: r => (k, v) :: nY (k + 1) r
theorem pS : ∀ (l : List Value) (k t : Nat) (v : Value), (nY k l).get t = some v → k ≤ t ∧ l[t - k]? = some v := by
  intro l
  induction l with
  | nil => intro k t v h; cases h
  | cons u r ih =>
    intro k t v h
    simp only [nY, Env.get] at h
    cases hb : Nat.beq k t with
    | true =>
      rw [hb] at h
      have : k = t := Nat.eq_of_beq_eq_true hb
      subst this
      simp only [cond_true, Option.some.injEq] at h
      exact ⟨Nat.le_refl _, by simp [h]⟩
    | false =>
      rw [hb] at h
      have hne : k ≠ t := Nat.ne_of_beq_eq_false hb
      obtain ⟨h1, h2⟩ := ih (k + 1) t v h
      refine ⟨by omega, ?_⟩
      rw [show t - k = (t - (k + 1)) + 1 from by omega]
      simpa using h2
theorem bJ {f : FuncId} {fn : Func} {c : Code} {args : List Value} {E : Ending → World → Prop} {N : Nat}
    (hf : P.funcs[f]? = some fn) (hb : fn.body = some c) (hN : fn.ntmps = N) (hle' : Nat.ble args.length N = true)
    (h : CW P (N, []) c (oE P fn E) (nY 0 args) w) : Calls P f args.toArray w E := by
  have hle : args.length ≤ N := Nat.le_of_ble_eq_true hle'; refine calls_of_wp hf hb (wp_mono (h _ ⟨?_, rfl, ?_⟩) ?_)
  · simp [hN]; omega
  · intro t v hv
    obtain ⟨_, h2⟩ := pS args 0 t v hv; simp only [Nat.sub_zero] at h2; have hlt : t < args.length := (List.getElem?_eq_some_iff.1 h2).1
    have h3 : args[t] = v := by rw [List.getElem?_eq_getElem hlt] at h2; exact Option.some.inj h2
    simp [Array.getElem?_append, hlt, h3]
  · intro e a' w' hq
    cases e with
    | normal => obtain ⟨N', σ', hf', hn, hk⟩ := hq; obtain ⟨v, h1, h2⟩ := hk a' (by rw [hf'.1, hf'.2.1]; exact hf'); exact ⟨hf'.2.1.trans hn, v, h1, h2⟩
    | ret => obtain ⟨N', σ', hf', hn, hk⟩ := hq; obtain ⟨v, h1, h2⟩ := hk a' (by rw [hf'.1, hf'.2.1]; exact hf'); exact ⟨hf'.2.1.trans hn, v, h1, h2⟩
    | panic ch => obtain ⟨N', σ', hf, hn, hk⟩ := hq; exact ⟨hf.2.1.trans hn, hk⟩
    | outgrown => obtain ⟨_, hk⟩ := hq; exact hk
    | exit i => obtain ⟨_, _, _, hk⟩ := hq; exact hk
    | goto l => obtain ⟨_, _, _, hk⟩ := hq; exact hk
theorem vI {n : Nat} {fn : Func} {Φ : Value → World → Prop} (hr : fn.results = #[]) (h : Φ (.tuple #[]) w) : oE P fn (Ret Φ) .ret (n, []) σ w :=
  ⟨rfl, fun _ _ => ⟨.tuple #[], results_none hr _ _ _, _, rfl, h⟩⟩
theorem cC {n : Nat} {fn : Func} {Φ : Value → World → Prop} (hr : fn.results = #[]) (h : Φ (.tuple #[]) w) : oE P fn (Ret Φ) .normal (n, []) σ w :=
  ⟨rfl, fun _ _ => ⟨.tuple #[], results_none hr _ _ _, _, rfl, h⟩⟩
theorem OJ {n : Nat} {fn : Func} {t : Tmp} {v : Value} {Φ : Value → World → Prop} (hr : fn.results = #[.tmp t]) (hv : σ.get t = some v) (h : Φ v w) : oE P fn (Ret Φ) .ret (n, []) σ w :=
  ⟨rfl, fun a ha => ⟨v, by rw [results_tmp hr, ha.2.2 t v hv], _, rfl, h⟩⟩
theorem br1 {n : Nat} {fn : Func} {t : Tmp} {v : Value} {Φ : Value → World → Prop} (h : Φ v w) (hr : fn.results = #[.tmp t] := by rfl) (hv : σ.get t = some v := by rfl) : oE P fn (Ret Φ) .ret (n, []) σ w := OJ hr hv h
theorem dC {n : Nat} {fn : Func} {t u : Tmp} {v v' : Value} {Φ : Value → World → Prop} (hr : fn.results = #[.tmp t, .tmp u]) (hv : σ.get t = some v) (hv' : σ.get u = some v') (h : Φ (.tuple #[v, v']) w) : oE P fn (Ret Φ) .ret (n, []) σ w :=
  ⟨rfl, fun a ha => ⟨.tuple #[v, v'], by rw [results_tmp2 hr, ha.2.2 t v hv, ha.2.2 u v' hv'], _, rfl, h⟩⟩
end
structure Evo (X : List Nat) (w w' : World) : Prop where
  os : w'.os = w.os
  tape : w'.tape = w.tape
  output : w'.output = w.output
  size : w.heap.size ≤ w'.heap.size
  block : ∀ b, b < w.heap.size → b ∉ X → w'.heap[b]? = w.heap[b]?
theorem Evo.refl (X : List Nat) (w : World) : Evo X w w := ⟨rfl, rfl, rfl, Nat.le_refl _, fun _ _ _ => rfl⟩
theorem Evo.trans {X : List Nat} {a b c : World} (h : Evo X a b) (k : Evo X b c) : Evo X a c :=
  ⟨k.os.trans h.os, k.tape.trans h.tape, k.output.trans h.output, Nat.le_trans h.size k.size, fun i hi hx => (k.block i (Nat.lt_of_lt_of_le hi h.size) hx).trans (h.block i hi hx)⟩
theorem Evo.mono {X Y : List Nat} {w w' : World} (h : Evo X w w') (hxy : ∀ b, b ∈ X → b ∈ Y) : Evo Y w w' :=
  ⟨h.os, h.tape, h.output, h.size, fun b hb hy => h.block b hb (fun hx => hy (hxy b hx))⟩
theorem Evo.any {w w' : World} (h : Evo [] w w') (Y : List Nat) : Evo Y w w' := h.mono (fun _ hb => by cases hb)
theorem Evo.step {X Y : List Nat} {a b c : World} (h : Evo X a b) (k : Evo Y b c) (hy : ∀ y, y ∈ Y → y ∈ X ∨ a.heap.size ≤ y) : Evo X a c :=
  ⟨k.os.trans h.os, k.tape.trans h.tape, k.output.trans h.output, Nat.le_trans h.size k.size, fun i hi hx =>
    (k.block i (Nat.lt_of_lt_of_le hi h.size) (fun hiy => by rcases hy i hiy with h1 | h1 <;> first | exact hx h1 | omega)).trans (h.block i hi hx)⟩
theorem Evo.then {a b c : World} {X : List Nat} (h : Evo X a b) (k : Evo [] b c) : Evo X a c := h.step k (fun _ hy => by cases hy)
theorem Evo.blk {X : List Nat} {w w' : World} (h : Evo X w w') {b : Nat} {o : Obj} (hb : w.heap[b]? = some o) (hx : b ∉ X) : w'.heap[b]? = some o := by
  rw [h.block b (Array.getElem?_eq_some_iff.1 hb).1 hx]; exact hb
theorem Evo.blk0 {w w' : World} (h : Evo [] w w') {b : Nat} {o : Obj} (hb : w.heap[b]? = some o) : w'.heap[b]? = some o := h.blk hb (fun h => by cases h)
theorem Evo.cell {X : List Nat} {w w' : World} (h : Evo X w w') {a : Addr} {v : Value} (hc : w.cell? a = some v) (hx : a.block ∉ X) : w'.cell? a = some v :=
  (World.cell?_of_block (h.block a.block (World.block_lt_of_cell? w a hc) hx)).trans hc
theorem eW {w : World} {b : Nat} {o : Obj} (hb : w.heap[b]? = some o) : b < w.heap.size := (Array.getElem?_eq_some_iff.1 hb).1
theorem Evo.below {w w' : World} (h : Evo [] w w') : RowKit.Below w.heap.size w w' := ⟨h.os, h.tape, h.output, h.size, fun k hk => h.block k hk (fun h => by cases h)⟩
theorem Evo.of_grown {w w' : World} {row : Option Nat} (h : w.grownBy w' row) : Evo row.toList w w' :=
  ⟨h.os, h.tape, h.output, h.size, fun b hb hx => h.block b hb (fun e => hx (by simp [← e]))⟩
theorem TJ (w : World) : Evo [] w { w with drawn := w.drawn + 1 } := ⟨rfl, rfl, rfl, Nat.le_refl _, fun _ _ _ => rfl⟩
theorem pJ (w : World) (o : Obj) : Evo [] w (w.alloc o) := ⟨rfl, rfl, rfl, by simp, fun k hk _ => RowKit.Below.heap_alloc w o k hk⟩
theorem vT (w : World) (a : Addr) (v : Value) : Evo [a.block] w (w.setCell a v) :=
  ⟨rfl, rfl, rfl, by simp, fun k _ hx => RowKit.Below.heap_setCell _ _ _ _ (fun e => hx (by simp [e]))⟩
def oG (P : Program) (t : TypeId) : Option Bool := (P.underlying t).map fun | .struct _ | .array _ _ => true | _ => false
def iT (P : Program) (t : TypeId) : Option Nat := (P.info? t).map (·.size)
def gA (P : Program) (s : TypeId) (i : Nat) : Option Nat :=
  match P.underlying s with
  | some (.struct fs) => match fs[i]? with
    | some f => match P.info? f.type with
      | some n => if n.size = 0 then none else some f.offset
      | none => none
    | none => none
  | _ => none
def tT (P : Program) (t : TypeId) : Option Nat :=
  match P.underlying t with
  | some (.slice e) => (P.info? e).map (·.size)
  | _ => none
def eY (P : Program) (f : FuncId) : Prop := ∃ fn, P.funcs[f]? = some fn ∧ (fn.name == "runtime.NumGoroutine") = false ∧ fn.body.isNone = false
def Ex (P : Program) (σ : Env) (o : Oper) (w : World) (r : Value) (w' : World) : Prop := ∀ ρ, EW σ ρ → (execOp ρ o).run P w = .ok (.value r) w'
def ExS (P : Program) (σ : Env) (o : Oper) (w : World) (w' : World) : Prop := ∀ ρ, EW σ ρ → (execOp ρ o).run P w = .ok .skip w'
def WL (P : Program) (N : NN) (ops : Array Oper) (R : kK) (l : List Oper) (σ : Env) (w : World) : Prop := ∀ a, Fits N σ a → wpList P ops (toQ R) l a w
section
variable {P : Program} {N : NN} {R : kK} {σ : Env} {w w' : World} {ops : Array Oper} {rest : List Oper} {d : Nat} {op : Op} {T : TypeId} {pos : String} {after : Array Edge}
theorem aB {id : Nat} {l : List Oper} (h : WL P N l.toArray R l σ w) : CW P N (.region id l.toArray false) R σ w := fun a ha => wp_region_lit (h a ha)
theorem aC (h : R .normal N σ w) : WL P N ops R [] σ w := fun _ ha => wpList_nil ⟨N, σ, ha, h⟩
theorem jF {r : Value} (hd : Nat.blt d N.1 = true) (hx : Ex P σ ⟨some d, op, T, pos, after, none⟩ w r w') (h : WL P N ops R rest ((d, r) :: σ) w') :
    WL P N ops R (⟨some d, op, T, pos, after, none⟩ :: rest) σ w := fun a ha => wpList_plain rfl fun K hK => by
  unfold Oper.wp
  rw [hx a.eval ha.agrees]
  exact hK _ _ (h _ (ha.put (of_decide_eq_true (by simpa using hd)) r))
theorem aF {r : Value} (hx : Ex P σ ⟨some d, op, T, pos, after, none⟩ w r w') (h : WL P N ops R rest ((d, r) :: σ) w') (hd : Nat.blt d N.1 = true := by rfl) : WL P N ops R (⟨some d, op, T, pos, after, none⟩ :: rest) σ w := jF hd hx h
theorem wl_skip (hx : ExS P σ ⟨none, op, T, pos, after, none⟩ w w') (h : WL P N ops R rest σ w') :
    WL P N ops R (⟨none, op, T, pos, after, none⟩ :: rest) σ w := fun a ha => wpList_plain rfl fun K hK => by
  unfold Oper.wp
  rw [hx a.eval ha.agrees]
  exact hK _ _ (h _ ha)
theorem wl_go {dst : Option Nat} {j : Nat} {pol : Bool} {oj : Oper} {t : Nat} (hj : ops[j]? = some oj) (ht : oj.dst = some t) (hv : σ.get t = some (.bool pol)) (hN : Nat.blt t N.1 = true)
    (h : WL P N ops R (⟨dst, op, T, pos, after, none⟩ :: rest) σ w) : WL P N ops R (⟨dst, op, T, pos, after, some (j, pol)⟩ :: rest) σ w := fun a ha => by
  have h1 := h a ha
  have hg : Region.wanted (⟨dst, op, T, pos, after, some (j, pol)⟩ : Oper) (yielded ops a.tmps) = true := by
    have hs : t < a.tmps.size := by rw [ha.1]; exact of_decide_eq_true (by simpa using hN)
    have := ha.2.2 t _ hv
    simp only [Array.getD_eq_getD_getElem?, Array.getElem?_eq_getElem hs, Option.getD_some] at this
    simp [Region.wanted, yielded, hj, ht, Array.getElem?_eq_getElem hs, this]
  unfold wpList at h1 ⊢
  rw [if_pos hg]
  rw [if_pos (by simp [Region.wanted])] at h1
  exact h1
theorem wl_no {j : Nat} {pol b : Bool} {oj : Oper} {t : Nat} (hj : ops[j]? = some oj) (ht : oj.dst = some t) (hv : σ.get t = some (.bool b)) (hb : b = !pol) (hN : Nat.blt t N.1 = true) (hd : Nat.blt d N.1 = true)
    (h : WL P N ops R rest ((d, undef) :: σ) w) : WL P N ops R (⟨some d, op, T, pos, after, some (j, pol)⟩ :: rest) σ w := fun a ha => by
  have hg : Region.wanted (⟨some d, op, T, pos, after, some (j, pol)⟩ : Oper) (yielded ops a.tmps) = false := by
    have hs : t < a.tmps.size := by rw [ha.1]; exact of_decide_eq_true (by simpa using hN)
    have := ha.2.2 t _ hv
    simp only [Array.getD_eq_getD_getElem?, Array.getElem?_eq_getElem hs, Option.getD_some] at this
    subst hb
    cases pol <;> simp [Region.wanted, yielded, hj, ht, Array.getElem?_eq_getElem hs, this]
  unfold wpList
  rw [if_neg (by rw [hg]; simp)]
  exact h _ (ha.put (of_decide_eq_true (by simpa using hd)) _)
theorem aV {l : List Oper} {t : Nat} {p : Prop} [Decidable p] (hv : σ.get t = some (.bool (decide p))) (ht : p → WL P N ops R l ((t, .bool true) :: σ) w) (hf : ¬ p → WL P N ops R l ((t, .bool false) :: σ) w) : WL P N ops R l σ w := by
  intro a ha
  by_cases h : p
  · refine ht h a ⟨ha.1, ha.2.1, fun u v hu => ?_⟩
    simp only [Env.get] at hu
    cases hb : Nat.beq t u with
    | true =>
      rw [hb] at hu
      have : t = u := Nat.eq_of_beq_eq_true hb
      subst this
      simp only [cond_true, Option.some.injEq] at hu
      rw [← hu, ha.2.2 t _ hv, decide_eq_true h]
    | false => rw [hb] at hu; exact ha.2.2 u v hu
  · refine hf h a ⟨ha.1, ha.2.1, fun u v hu => ?_⟩
    simp only [Env.get] at hu
    cases hb : Nat.beq t u with
    | true =>
      rw [hb] at hu
      have : t = u := Nat.eq_of_beq_eq_true hb
      subst this
      simp only [cond_true, Option.some.injEq] at hu
      rw [← hu, ha.2.2 t _ hv, decide_eq_false h]
    | false => rw [hb] at hu; exact ha.2.2 u v hu
theorem gU {l : List Oper} {t : Nat} {b : Bool} (hv : σ.get t = some (.bool b)) (ht : b = true → WL P N ops R l ((t, .bool true) :: σ) w) (hf : b = false → WL P N ops R l ((t, .bool false) :: σ) w) : WL P N ops R l σ w := by
  have hv' : σ.get t = some (.bool (decide (b = true))) := by rw [hv]; cases b <;> rfl
  exact aV hv' ht (fun h => hf (by simpa using h))
theorem wl_call {dst : Option Nat} {f : FuncId} {xs : Array Operand} {ats : Array TypeId} {vs : List Value} {Φ : Value → World → Prop} (hgo : eY P f) (hxs : xs.toList.map σ.ev = vs.map some)
    (hc : Calls P f vs.toArray w (Ret Φ)) (hd : ∀ k, dst = some k → Nat.blt k N.1 = true)
    (h : ∀ v w', Φ v w' → WL P N ops R rest (match dst with | some k => (k, v) :: σ | none => σ) w') :
    WL P N ops R (⟨dst, .call ⟨.value (.func f), xs, ats⟩, T, pos, after, none⟩ :: rest) σ w := fun a ha => wpList_plain rfl fun K hK => by
  have hargs : xs.map a.eval = vs.toArray := by
    apply Array.ext'
    rw [Array.toList_map]
    have hag := ha.agrees
    clear hK hc h ha
    generalize xs.toList = l at *
    clear xs
    revert vs
    induction l with
    | nil => intro vs hxs; cases vs with | nil => rfl | cons _ _ => simp at hxs
    | cons x l ih =>
      intro vs hxs
      cases vs with
      | nil => simp at hxs
      | cons v vs =>
        simp only [List.map_cons, List.cons.injEq] at hxs
        simp only [List.map_cons, hag x v hxs.1]
        exact congrArg _ (ih hxs.2)
  obtain ⟨fn, hf, hn, hbd⟩ := hgo
  unfold Oper.wp
  have hrun : (execOp a.eval ⟨dst, .call ⟨.value (.func f), xs, ats⟩, T, pos, after, none⟩).run P w = .ok (.enter f vs.toArray) w := by
    have hn' : ¬ fn.name = "runtime.NumGoroutine" := by simpa using hn
    have hb' : ¬ fn.body = none := by intro hh; simp [hh] at hbd
    simp only [execOp, resolve, hargs]
    simp [Act.eval, Deferred.ofValue, invoke, callFunc, hf, hn', hb']
  rw [hrun]
  show Calls P f vs.toArray w _
  refine hc.mono ?_
  rintro e w' ⟨v, rfl, hΦ⟩
  cases dst with
  | none => exact hK _ _ (h v w' hΦ a ha)
  | some k => exact hK _ _ (h v w' hΦ _ (ha.put (of_decide_eq_true (by simpa using hd k rfl)) v))
end
section
variable {P : Program} {σ : Env} {w : World} {dst : Option Nat} {T : TypeId} {pos : String} {after : Array Edge} {g : Option (Nat × Bool)}
theorem bO {x : Operand} {v : Value} (hx : σ.ev x = some v) : Ex P σ ⟨dst, .move x, T, pos, after, g⟩ w v w := fun ρ h => by
  simp [execOp, h x v hx]
theorem eT {x : Operand} {v : Value} (hx : σ.ev x = some v) : Ex P σ ⟨dst, .assign x, T, pos, after, g⟩ w v w := fun ρ h => by
  simp [execOp, h x v hx]
theorem hD {c x y : Operand} {v : Value} (hc : σ.ev c = some (.bool true)) (hx : σ.ev x = some v) : Ex P σ ⟨dst, .pick c x y, T, pos, after, g⟩ w v w := fun ρ h => by
  simp [execOp, h c _ hc, h x v hx, asBool]
theorem iE {c x y : Operand} {v : Value} (hc : σ.ev c = some (.bool false)) (hx : σ.ev y = some v) : Ex P σ ⟨dst, .pick c x y, T, pos, after, g⟩ w v w := fun ρ h => by
  simp [execOp, h c _ hc, h y v hx, asBool]
theorem nE {x : Operand} {t : TypeId} {p : Prop} [Decidable p] (hx : σ.ev x = some (.bool (decide p))) : Ex P σ ⟨dst, .unOp .not t x, T, pos, after, g⟩ w (.bool (decide (¬ p))) w := fun ρ h => by
  simp [execOp, h x _ hx, Op.unary]
theorem fF {x : Operand} {t : TypeId} {b : Bool} (hx : σ.ev x = some (.bool b)) : Ex P σ ⟨dst, .unOp .not t x, T, pos, after, g⟩ w (.bool (!b)) w := fun ρ h => by
  simp [execOp, h x _ hx, Op.unary]
theorem qD {bop : BinOp} {x y : Operand} {t t' : TypeId} {k : IntKind} {m n : Int} {v : Value} (hop : ∀ w : World, (Go.binOp bop t (.int k m) (.int k n)).run P w = .ok v w)
    (hx : σ.ev x = some (.int k m)) (hy : σ.ev y = some (.int k n)) : Ex P σ ⟨dst, .binOp bop t x y t', T, pos, after, g⟩ w v w := fun ρ h => by
  simp only [execOp, h x _ hx, h y _ hy]
  cases bop <;> simp [eqGuard, hop]
theorem wK {k : IntKind} {n : Int} (h : k.min ≤ n) (h' : n ≤ k.max) : k.wrap n = n := by
  cases k <;> simp only [IntKind.wrap, IntKind.min, IntKind.max, IntKind.bits, IntKind.signed] at * <;> simp at * <;> (try split) <;> omega
theorem TF {x y : Operand} {t t' : TypeId} {k : IntKind} {m n : Int} (hx : σ.ev x = some (.int k m)) (hy : σ.ev y = some (.int k n)) (h1 : k.min ≤ m + n) (h2 : m + n ≤ k.max) :
    Ex P σ ⟨dst, .binOp .add t x y t', T, pos, after, g⟩ w (.int k (m + n)) w := qD (fun w => by simp [Go.binOp, Op.intArith, wK h1 h2]) hx hy
theorem JH {x y : Operand} {t t' : TypeId} {k : IntKind} {m n : Int} (hx : σ.ev x = some (.int k m)) (hy : σ.ev y = some (.int k n)) (h1 : k.min ≤ m - n) (h2 : m - n ≤ k.max) :
    Ex P σ ⟨dst, .binOp .sub t x y t', T, pos, after, g⟩ w (.int k (m - n)) w := qD (fun w => by simp [Go.binOp, Op.intArith, wK h1 h2]) hx hy
theorem ex_mul {x y : Operand} {t t' : TypeId} {k : IntKind} {m n : Int} (hx : σ.ev x = some (.int k m)) (hy : σ.ev y = some (.int k n)) (h1 : k.min ≤ m * n) (h2 : m * n ≤ k.max) :
    Ex P σ ⟨dst, .binOp .mul t x y t', T, pos, after, g⟩ w (.int k (m * n)) w := qD (fun w => by simp [Go.binOp, Op.intArith, wK h1 h2]) hx hy
theorem bD {x y : Operand} {t t' : TypeId} {k : IntKind} {m n : Int} (hx : σ.ev x = some (.int k m)) (hy : σ.ev y = some (.int k n)) :
    Ex P σ ⟨dst, .binOp .eql t x y t', T, pos, after, g⟩ w (.bool (decide (m = n))) w := qD (fun w => by simp only [Go.binOp, Op.intCmp]; simp; rw [Bool.eq_iff_iff]; simp) hx hy
theorem fX {x y : Operand} {t t' : TypeId} {k : IntKind} {m n : Int} (hx : σ.ev x = some (.int k m)) (hy : σ.ev y = some (.int k n)) :
    Ex P σ ⟨dst, .binOp .neq t x y t', T, pos, after, g⟩ w (.bool (decide (m ≠ n))) w := qD (fun w => by simp only [Go.binOp, Op.intCmp]; simp; rw [Bool.eq_iff_iff]; simp) hx hy
theorem dF {x y : Operand} {t t' : TypeId} {k : IntKind} {m n : Int} (hx : σ.ev x = some (.int k m)) (hy : σ.ev y = some (.int k n)) :
    Ex P σ ⟨dst, .binOp .lss t x y t', T, pos, after, g⟩ w (.bool (decide (m < n))) w := qD (fun w => by simp [Go.binOp, Op.intCmp]) hx hy
theorem gY {x y : Operand} {t t' : TypeId} {k : IntKind} {m n : Int} (hx : σ.ev x = some (.int k m)) (hy : σ.ev y = some (.int k n)) :
    Ex P σ ⟨dst, .binOp .leq t x y t', T, pos, after, g⟩ w (.bool (decide (m ≤ n))) w := qD (fun w => by simp [Go.binOp, Op.intCmp]) hx hy
theorem gL {x y : Operand} {t t' : TypeId} {k : IntKind} {m n : Int} (hx : σ.ev x = some (.int k m)) (hy : σ.ev y = some (.int k n)) :
    Ex P σ ⟨dst, .binOp .gtr t x y t', T, pos, after, g⟩ w (.bool (decide (n < m))) w := qD (fun w => by simp [Go.binOp, Op.intCmp]) hx hy
theorem gC {x y : Operand} {t t' : TypeId} {k : IntKind} {m n : Int} (hx : σ.ev x = some (.int k m)) (hy : σ.ev y = some (.int k n)) :
    Ex P σ ⟨dst, .binOp .geq t x y t', T, pos, after, g⟩ w (.bool (decide (n ≤ m))) w := qD (fun w => by simp [Go.binOp, Op.intCmp]) hx hy
theorem bC {x y : Operand} {t t' : TypeId} {m n : Int} (hx : σ.ev x = some (.int .i64 m)) (hy : σ.ev y = some (.int .i64 n)) (h1 : -9223372036854775808 ≤ m + n) (h2 : m + n ≤ 9223372036854775807) :
    Ex P σ ⟨dst, .binOp .add t x y t', T, pos, after, g⟩ w (.int .i64 (m + n)) w := TF hx hy h1 h2
theorem gK {x y : Operand} {t t' : TypeId} {m n : Int} (hx : σ.ev x = some (.int .i64 m)) (hy : σ.ev y = some (.int .i64 n)) (h1 : -9223372036854775808 ≤ m - n) (h2 : m - n ≤ 9223372036854775807) :
    Ex P σ ⟨dst, .binOp .sub t x y t', T, pos, after, g⟩ w (.int .i64 (m - n)) w := JH hx hy h1 h2
theorem sX {x y : Operand} {t t' : TypeId} {m n : Int} (hx : σ.ev x = some (.int .i64 m)) (hy : σ.ev y = some (.int .i64 n)) (h1 : -9223372036854775808 ≤ m * n) (h2 : m * n ≤ 9223372036854775807) :
    Ex P σ ⟨dst, .binOp .mul t x y t', T, pos, after, g⟩ w (.int .i64 (m * n)) w := ex_mul hx hy h1 h2
theorem kB {x y : Operand} {t t' : TypeId} {m n : Int} (hx : σ.ev x = some (.int .i32 m)) (hy : σ.ev y = some (.int .i32 n)) (h1 : -2147483648 ≤ m + n) (h2 : m + n ≤ 2147483647) :
    Ex P σ ⟨dst, .binOp .add t x y t', T, pos, after, g⟩ w (.int .i32 (m + n)) w := TF hx hy h1 h2
theorem JG {x y : Operand} {t t' : TypeId} {m n : Int} (hx : σ.ev x = some (.int .i32 m)) (hy : σ.ev y = some (.int .i32 n)) (h1 : -2147483648 ≤ m - n) (h2 : m - n ≤ 2147483647) :
    Ex P σ ⟨dst, .binOp .sub t x y t', T, pos, after, g⟩ w (.int .i32 (m - n)) w := JH hx hy h1 h2
theorem lL {x y : Operand} {t t' : TypeId} {m n : Int} (hx : σ.ev x = some (.int .u8 m)) (hy : σ.ev y = some (.int .u8 n)) (h1 : 0 ≤ m - n) (h2 : m - n ≤ 255) :
    Ex P σ ⟨dst, .binOp .sub t x y t', T, pos, after, g⟩ w (.int .u8 (m - n)) w := JH hx hy h1 h2
theorem bK {x : Operand} {ats : Array TypeId} {t e : TypeId} {a : Option Addr} {n c : Nat} (hx : σ.ev x = some (.slice a n c)) (ht : P.underlying t = some (.slice e)) (hats : ats = #[t]) :
    Ex P σ ⟨dst, .call ⟨.builtin .len, #[x], ats⟩, T, pos, after, g⟩ w (.int .i64 n) w := fun ρ h => by
  subst hats
  simp [execOp, resolve, h x _ hx, invoke, builtin, Builtin.len_, run_underlying ht, goInt]
theorem cM {x : Operand} {ats : Array TypeId} {t : TypeId} {s : ByteArray} (hx : σ.ev x = some (.string s)) (ht : P.underlying t = some .string) (hats : ats = #[t]) :
    Ex P σ ⟨dst, .call ⟨.builtin .len, #[x], ats⟩, T, pos, after, g⟩ w (.int .i64 s.size) w := fun ρ h => by
  subst hats
  simp [execOp, resolve, h x _ hx, invoke, builtin, Builtin.len_, run_underlying ht, goInt]
theorem aP {x : Operand} {a : Addr} (hx : σ.ev x = some (.pointer (some a))) : Ex P σ ⟨dst, .nilCheck x, T, pos, after, g⟩ w (.pointer (some a)) w := fun ρ h => by
  simp [execOp, h x _ hx]
theorem aD {x : Operand} {s : TypeId} {i off b o : Nat} (hx : σ.ev x = some (.pointer (some ⟨b, o, none⟩))) (hf : gA P s i = some off) :
    Ex P σ ⟨dst, .fieldAddr s x i, T, pos, after, g⟩ w (.pointer (some ⟨b, o + off, none⟩)) w := fun ρ h => by
  simp only [gA] at hf
  split at hf <;> try cases hf
  rename_i fs hu
  split at hf <;> try cases hf
  rename_i f hfs
  split at hf <;> try cases hf
  rename_i n hn
  split at hf <;> try cases hf
  rename_i hsz
  have ha : (⟨b, o, none⟩ : Addr).add f.offset = ⟨b, o + f.offset, none⟩ := by unfold Addr.add; split <;> simp_all
  simp [execOp, h x _ hx, Instr.fieldAt, run_underlying hu, hfs, Instr.sureAddr, fieldPlace, sizeOf, typeInfo, hn, hsz, ha]
theorem gF {x i : Operand} {t : TypeId} {k : IntKind} {n sz b o len c : Nat} (hx : σ.ev x = some (.slice (some ⟨b, o, none⟩) len c)) (hi : σ.ev i = some (.int k n)) (he : tT P t = some sz) (hlt : n < len) :
    Ex P σ ⟨dst, .indexAddr t x i, T, pos, after, g⟩ w (.pointer (some ⟨b, o + n * sz, none⟩)) w := fun ρ h => by
  simp only [tT] at he
  split at he <;> try cases he
  rename_i e hu
  obtain ⟨inf, hin, hsz⟩ := Option.map_eq_some_iff.1 he
  have ha : (⟨b, o, none⟩ : Addr).add (n * sz) = ⟨b, o + n * sz, none⟩ := by unfold Addr.add; split <;> simp_all
  simp [execOp, h x _ hx, h i _ hi, Instr.indexAt, asIntOf, run_underlying hu, sizeOf, typeInfo, hin, hsz, hlt, ha]
theorem nR {t : TypeId} {b : Bool} (ht : oG P t = some b) (w : World) : (isAgg t).run P w = .ok b w := by
  obtain ⟨d, hd, hb⟩ := Option.map_eq_some_iff.1 ht
  subst hb
  cases d <;> simp [isAgg, run_underlying hd]
theorem aI {x : Operand} {t : TypeId} {b o : Nat} {v : Value} (hx : σ.ev x = some (.pointer (some ⟨b, o, none⟩))) (ht : oG P t = some false) (hc : w.cell? ⟨b, o, none⟩ = some v) :
    Ex P σ ⟨dst, .load t x, T, pos, after, g⟩ w v w := fun ρ h => by
  simp [execOp, h x _ hx, Instr.loadAt, Instr.sureAddr, loadVar, nR ht, hc]
theorem iJ {b o : Nat} {cs : Array Value} {t : TypeId} {fz : Nat × Nat} {v : Value} (hb : w.heap[b]? = some (.cells cs t fz)) (hv : cs[o]? = some v) : w.cell? ⟨b, o, none⟩ = some v := by
  simp [World.cell?, hb, hv]
def nth : List Value → Nat → Option Value
  | [], _ => none
  | a :: _, 0 => some a
  | _ :: l, n + 1 => nth l n
theorem RI : ∀ (l : List Value) (n : Nat), nth l n = l[n]?
  | [], _ => by simp [nth]
  | _ :: _, 0 => by simp [nth]
  | _ :: l, n + 1 => by simp [nth, RI l n]
theorem aJ {b o : Nat} {cs : Array Value} {t : TypeId} {fz : Nat × Nat} {v : Value} (hb : w.heap[b]? = some (.cells cs t fz)) (hv : nth cs.toList o = some v) : w.cell? ⟨b, o, none⟩ = some v :=
  iJ hb (by rw [RI] at hv; simpa using hv)
theorem lU (b o : Nat) : ∀ (n i : Nat) (acc : Array Value) (vs : List Value), vs.length = n → (∀ j v, vs[j]? = some v → w.cell? ⟨b, o + (i + j), none⟩ = some v) →
    (loadCellsFrom ⟨b, o, none⟩ i n acc).run P w = .ok (acc ++ vs.toArray) w := by
  intro n
  induction n with
  | zero => intro i acc vs hl _; have : vs = [] := List.eq_nil_of_length_eq_zero hl; subst this; simp [loadCellsFrom]
  | succ n ih =>
    intro i acc vs hl hc
    cases vs with
    | nil => simp at hl
    | cons v vs =>
      have h0 := hc 0 v (by simp)
      have hadd : (⟨b, o, none⟩ : Addr).add i = ⟨b, o + (i + 0), none⟩ := by unfold Addr.add; split <;> simp_all
      have := ih (i + 1) (acc.push v) vs (by simpa using hl) (fun j u hu => by have := hc (j + 1) u (by simpa using hu); rw [show i + 1 + j = i + (j + 1) from by omega]; exact this)
      simp only [Nat.add_zero] at h0 hadd
      simp [loadCellsFrom, hadd, h0, this]
theorem eJ {x : Operand} {t : TypeId} {b o n : Nat} {vs : List Value} (hx : σ.ev x = some (.pointer (some ⟨b, o, none⟩))) (ht : oG P t = some true) (hs : iT P t = some n) (hl : vs.length = n)
    (hc : ∀ j v, vs[j]? = some v → w.cell? ⟨b, o + j, none⟩ = some v) : Ex P σ ⟨dst, .load t x, T, pos, after, g⟩ w (.agg vs.toArray) w := fun ρ h => by
  obtain ⟨inf, hin, hsz⟩ := Option.map_eq_some_iff.1 hs
  have hr := lU (P := P) (w := w) b o n 0 #[] vs hl (fun j v hv => by simpa using hc j v hv)
  simp [execOp, h x _ hx, Instr.loadAt, Instr.sureAddr, loadVar, nR ht, sizeOf, typeInfo, hin, hsz, loadCells, hr]
end
section
variable {P : Program} {σ : Env} {w : World} {dst : Option Nat} {T : TypeId} {pos : String} {after : Array Edge} {g : Option (Nat × Bool)}
theorem ex_neqA {x y : Operand} {t t' : TypeId} {xs ys : Array Value} {p : Prop} [Decidable p] (hx : σ.ev x = some (.agg xs)) (hy : σ.ev y = some (.agg ys)) (hq : P.eqGuardType P.depth t = false)
    (hr : ∀ w, (Op.equal t (.agg xs) (.agg ys)).run P w = .ok (decide p) w) : Ex P σ ⟨dst, .binOp .neq t x y t', T, pos, after, g⟩ w (.bool (decide (¬ p))) w := fun ρ h => by
  simp [execOp, h x _ hx, h y _ hy, eqGuard, hq, Go.binOp, hr]
end
theorem uU {P : Program} {t : TypeId} {cs : Array Value} {off : Nat} {v : Value} (w : World) (ht : oG P t = some false) (hv : cs[off]? = some v) : (part t cs off).run P w = .ok v w := by
  simp [part, nR ht, hv]
def oJ (P : Program) (t : TypeId) : Option (Array Value) := ((P.info? t).bind (·.zero)).map Value.cells
theorem set_row (cs : Array Value) (o : Nat) (v : Value) (h : o < cs.size) : (cs.toList.take o ++ #[v].toList ++ cs.toList.drop (o + 1)).toArray = cs.setIfInBounds o v := by
  apply Array.toList_inj.1
  simp [List.set_eq_take_append_cons_drop, h]
theorem vK (w : World) (o : Obj) : (w.alloc o).heap[w.heap.size]? = some o := heap_alloc_new w o
theorem qS {P : Program} (b : Nat) (t : TypeId) : ∀ (vs : List Value) (o i : Nat) (cs : Array Value) (w : World), w.heap[b]? = some (.cells cs t (0, 0)) → o + i + vs.length ≤ cs.size → (∀ v, v ∈ vs → v.oneCell' = true) →
    ∃ w', (storeCells ⟨b, o, none⟩ vs i).run P w = .ok () w' ∧ w'.heap[b]? = some (.cells (cs.toList.take (o + i) ++ vs ++ cs.toList.drop (o + i + vs.length)).toArray t (0, 0)) ∧ Evo [b] w w' := by
  intro vs
  induction vs with
  | nil => intro o i cs w hb _ _; exact ⟨w, by simp [storeCells], by simpa using hb, Evo.refl _ _⟩
  | cons v vs ih =>
    intro o i cs w hb hle h1
    have hadd : (⟨b, o, none⟩ : Addr).add i = ⟨b, o + i, none⟩ := by unfold Addr.add; split <;> simp_all
    have hlt : o + i < cs.size := by simp at hle; omega
    have hc : w.cell? ⟨b, o + i, none⟩ = some cs[o + i] := iJ hb (by simp [hlt])
    have hfz : w.frozen? ⟨b, o + i, none⟩ = false := by simp [World.frozen?, hb]
    have hb1 : (w.setCell ⟨b, o + i, none⟩ v).heap[b]? = some (.cells (cs.setIfInBounds (o + i) v) t (0, 0)) := by
      simp only [World.setCell, Array.getElem?_modify, if_true, hb, Option.map_some]; rfl
    obtain ⟨w', hr, hb', he⟩ := ih o (i + 1) _ _ hb1 (by simp at hle ⊢; omega) (fun u hu => h1 u (List.mem_cons_of_mem _ hu))
    refine ⟨w', ?_, ?_, (vT w ⟨b, o + i, none⟩ v).trans he⟩
    · simp [storeCells, hadd, run_store P w _ v .plain (h1 v (by simp)), hc, hfz, hr]
    · rw [hb']
      congr 3
      apply List.ext_getElem?
      intro j
      simp only [Array.toList_setIfInBounds, List.append_assoc, List.getElem?_append, List.length_take, List.length_set, Array.length_toList, List.getElem?_take, List.getElem?_drop, List.length_cons, List.getElem?_set]
      by_cases h2 : j < o + i
      · simp [h2, show j < o + (i + 1) by omega, show j < min (o + (i + 1)) cs.size by omega, show j < min (o + i) cs.size by omega, show ¬ o + i = j by omega]
      · by_cases h3 : j = o + i
        · subst h3
          simp [show o + i < o + (i + 1) by omega, show o + i < min (o + (i + 1)) cs.size by omega, show ¬ (o + i < min (o + i) cs.size) by omega, hlt, show o + i - min (o + i) cs.size = 0 by omega]
        · simp only [show ¬ j < min (o + (i + 1)) cs.size by omega, show ¬ j < min (o + i) cs.size by omega, if_false]
          rw [show min (o + (i + 1)) cs.size = o + i + 1 by omega, show min (o + i) cs.size = o + i by omega]
          obtain ⟨m, rfl⟩ : ∃ m, j = o + i + 1 + m := ⟨j - (o + i + 1), by omega⟩
          rw [show o + i + 1 + m - (o + i + 1) = m by omega, show o + i + 1 + m - (o + i) = m + 1 by omega]
          simp only [List.getElem?_cons_succ, Nat.add_lt_add_iff_right, Nat.add_sub_add_right]
          split
          · rfl
          · rename_i h4
            rw [if_neg (by omega)]
            congr 1
            omega
section
variable {P : Program} {N : NN} {R : kK} {σ : Env} {w : World} {ops : Array Oper} {rest : List Oper} {d : Nat} {T : TypeId} {pos : String} {after : Array Edge}
theorem bX {x : Operand} {t U : TypeId} {b n : Nat} {cs : Array Value} {fz : Nat × Nat} {dst : Option Nat} {g : Option (Nat × Bool)} (hx : σ.ev x = some (.pointer (some ⟨b, 0, none⟩))) (ht : oG P t = some true) (hs : iT P t = some n)
    (hb : w.heap[b]? = some (.cells cs U fz)) (hl : cs.size = n) : Ex P σ ⟨dst, .load t x, T, pos, after, g⟩ w (.agg cs) w := by
  have := eJ (P := P) (σ := σ) (w := w) (dst := dst) (T := T) (pos := pos) (after := after) (g := g) (vs := cs.toList) hx ht hs (by simpa using hl) (fun j v hv => iJ hb (by simpa using hv))
  simpa using this
theorem wl_box {e : TypeId} {x : Operand} {v : Value} {cs : Array Value} (hd : Nat.blt d N.1 = true) (hx : σ.ev x = some v) (hc : v.cells = cs)
    (h : ∀ b w', w'.heap[b]? = some (.cells cs e (0, 0)) → w.heap.size = b → Evo [] w w' → WL P N ops R rest ((d, .pointer (some ⟨b, 0, none⟩)) :: σ) w') :
    WL P N ops R (⟨some d, .box e x, T, pos, after, none⟩ :: rest) σ w := by
  subst hc
  refine jF (w' := w.alloc (.cells v.cells e)) hd (fun ρ ha => ?_) (h _ _ (vK w _) rfl (pJ w _))
  simp [execOp, ha x v hx, Instr.box, newVar, newRow]
theorem kS {e : TypeId} {x : Operand} {cs : Array Value} (hd : Nat.blt d N.1 = true) (hx : σ.ev x = some (.agg cs))
    (h : ∀ b w', w'.heap[b]? = some (.cells cs e (0, 0)) → w.heap.size = b → Evo [] w w' → WL P N ops R rest ((d, .pointer (some ⟨b, 0, none⟩)) :: σ) w') :
    WL P N ops R (⟨some d, .box e x, T, pos, after, none⟩ :: rest) σ w := wl_box hd hx rfl h
theorem dA {e : TypeId} {cs : Array Value} (hd : Nat.blt d N.1 = true) (hz : oJ P e = some cs)
    (h : ∀ b w', w'.heap[b]? = some (.cells cs e (0, 0)) → w.heap.size = b → Evo [] w w' → WL P N ops R rest ((d, .pointer (some ⟨b, 0, none⟩)) :: σ) w') :
    WL P N ops R (⟨some d, .alloc e, T, pos, after, none⟩ :: rest) σ w := by
  obtain ⟨v, hv, rfl⟩ := Option.map_eq_some_iff.1 hz
  obtain ⟨i, hi, hz'⟩ := Option.bind_eq_some_iff.1 hv
  refine jF (w' := w.alloc (.cells v.cells e)) hd (fun ρ _ => ?_) (h _ _ (vK w _) rfl (pJ w _))
  simp [execOp, Instr.alloc, zeroValue, typeInfo, hi, hz', newVar, newRow]
theorem mL {t U : TypeId} {x y : Operand} {v : Value} {b o n : Nat} {cs : Array Value} (hx : σ.ev x = some (.pointer (some ⟨b, o, none⟩))) (hy : σ.ev y = some v) (hs : iT P t = some n) (hn : v.cells.size = n)
    (h1 : ∀ u, u ∈ v.cells.toList → u.oneCell' = true) (hb : w.heap[b]? = some (.cells cs U (0, 0))) (hle : o + n ≤ cs.size)
    (h : ∀ w', w'.heap[b]? = some (.cells (cs.toList.take o ++ v.cells.toList ++ cs.toList.drop (o + n)).toArray U (0, 0)) → Evo [b] w w' → WL P N ops R rest σ w') :
    WL P N ops R (⟨none, .store t x y, T, pos, after, none⟩ :: rest) σ w := by
  obtain ⟨i, hi, hsz⟩ := Option.map_eq_some_iff.1 hs
  obtain ⟨w', hr, hb', he⟩ := qS (P := P) b U v.cells.toList o 0 cs w hb (by simpa [hn] using hle) h1
  refine wl_skip (w' := w') (fun ρ ha => ?_) (h w' (by simpa [hn] using hb') he)
  simp [execOp, ha x _ hx, ha y _ hy, Instr.storeAt, Instr.sureAddr, storeVar, sizeOf, typeInfo, hi, hsz, hn, hr]
theorem bG {t U : TypeId} {x y : Operand} {v : Value} {b o : Nat} {cs : Array Value} (hx : σ.ev x = some (.pointer (some ⟨b, o, none⟩))) (hy : σ.ev y = some v) (h1 : v.oneCell' = true) (hs : iT P t = some 1)
    (hb : w.heap[b]? = some (.cells cs U (0, 0))) (hle : Nat.blt o cs.size = true)
    (h : ∀ w', w'.heap[b]? = some (.cells (cs.setIfInBounds o v) U (0, 0)) → Evo [b] w w' → WL P N ops R rest σ w') :
    WL P N ops R (⟨none, .store t x y, T, pos, after, none⟩ :: rest) σ w := by
  have hc : v.cells = #[v] := by cases v <;> first | rfl | cases h1
  have hlt : o < cs.size := of_decide_eq_true (by simpa using hle)
  refine mL hx hy hs (by simp [hc]) (by simp [hc, h1]) hb (by omega) (fun w' hb' he => h w' ?_ he)
  rw [hb', hc]
  have e := set_row cs o v hlt
  simp only at e ⊢
  rw [e]
def AllOne : List Value → Prop
  | [] => True
  | v :: r => v.oneCell' = true ∧ AllOne r
theorem AllOne.mem {l : List Value} (h : AllOne l) : ∀ u, u ∈ l → u.oneCell' = true := by
  induction l with
  | nil => intro u hu; cases hu
  | cons v l ih =>
    intro u hu
    rcases List.mem_cons.1 hu with rfl | hu
    · exact h.1
    · exact ih h.2 u hu
theorem bI {t U : TypeId} {x y : Operand} {b n : Nat} {cs vs : Array Value} (hx : σ.ev x = some (.pointer (some ⟨b, 0, none⟩))) (hy : σ.ev y = some (.agg vs)) (hs : iT P t = some n)
    (hb : w.heap[b]? = some (.cells cs U (0, 0))) (hn : vs.size = n) (hn' : cs.size = n) (h1 : AllOne vs.toList)
    (h : ∀ w', w'.heap[b]? = some (.cells vs U (0, 0)) → Evo [b] w w' → WL P N ops R rest σ w') :
    WL P N ops R (⟨none, .store t x y, T, pos, after, none⟩ :: rest) σ w := by
  refine mL hx hy hs hn (fun u hu => h1.mem u hu) hb (by omega) (fun w' hb' he => h w' ?_ he)
  rw [hb']
  simp only [List.take_zero, List.nil_append, Nat.zero_add]
  rw [List.drop_of_length_le (by simp; omega)]
  simp [Value.cells]
end
def CellsAt (w : World) (b o : Nat) (vs : List Value) : Prop := ∀ j v, vs[j]? = some v → w.cell? ⟨b, o + j, none⟩ = some v
theorem CellsAt.evo {X : List Nat} {w w' : World} {b o : Nat} {vs : List Value} (h : CellsAt w b o vs) (he : Evo X w w') (hb : b ∉ X) : CellsAt w' b o vs := fun j v hv => he.cell (h j v hv) hb
def intB (P : Program) (t : TypeId) : Option Bool := (P.underlying t).map fun | .int _ => true | _ => false
def Own (w : World) (e : TypeId) (sz : Nat) (v : Value) (n : Nat) (xs : List Value) (ob : Option Nat) : Prop :=
  xs.length = n * sz ∧ ((v = .slice none 0 0 ∧ n = 0 ∧ ob = none) ∨
    ∃ g cap cur, ob = some g ∧ v = .slice (some ⟨g, 0, none⟩) n cap ∧ w.heap[g]? = some (.cells cur e (0, 0)) ∧ n ≤ cap ∧ cap ≤ maxLen ∧ cur.size = cap * sz ∧ cur.toList.take (n * sz) = xs)
structure Src (P : Program) (w : World) (sz : Nat) (x : Value) (m : Nat) (news : List Value) : Prop where
  len : ∀ w2, (Builtin.lenOf x).run P w2 = .ok m w2
  cells : ∀ w2 : World, w2.heap = w.heap → (Builtin.firstCells sz m x).run P w2 = .ok news.toArray w2
  length : news.length = m * sz
  one : ∀ u, u ∈ news → u.oneCell' = true
theorem Src.nil {P : Program} {w : World} {sz : Nat} : Src P w sz (.slice none 0 0) 0 [] :=
  ⟨fun _ => rfl, fun _ _ => rfl, by simp, fun _ h => by cases h⟩
theorem Src.slice {P : Program} {w : World} {sz b o m c : Nat} {news : List Value} (hl : news.length = m * sz) (hc : CellsAt w b o news) (h1 : ∀ u, u ∈ news → u.oneCell' = true) : Src P w sz (.slice (some ⟨b, o, none⟩) m c) m news :=
  ⟨fun _ => rfl, fun w2 h2 => run_firstCells_some (P := P) w2 sz m ⟨b, o, none⟩ m c news hl (fun j v hv => by
    have hadd : (⟨b, o, none⟩ : Addr).add j = ⟨b, o + j, none⟩ := by unfold Addr.add; split <;> simp_all
    rw [hadd, show w2.cell? ⟨b, o + j, none⟩ = w.cell? ⟨b, o + j, none⟩ from by simp [World.cell?, h2]]
    exact hc j v hv), hl, h1⟩
theorem IC {P : Program} {w : World} {t u ty e : TypeId} {i : TypeInfo} {z : Value} {sz bytes : Nat} (ht : P.underlying t = some (.slice e)) (hu : intB P u = some false) (hi : P.info? e = some i) (hz : i.zero = some z)
    (hsize : i.size = sz) (hby : i.bytes = bytes) (hb0 : 0 < bytes) (hzs : z.cells.size = sz) {v x : Value} {n m : Nat} {xs news : List Value} {ob : Option Nat} (hown : Own w e sz v n xs ob) (hsrc : Src P w sz x m news)
    (hbytes : (n + m) * bytes ≤ 140737488355328) :
    ∃ v' w' ob', (Builtin.append_ #[t, u] ty #[v, x]).run P w = .ok v' w' ∧ Own w' e sz v' (n + m) (xs ++ news) ob' ∧ Evo ob.toList w w' ∧ (ob' = ob ∨ ∃ g, ob' = some g ∧ w.heap.size ≤ g ∧ Evo [] w w') := by
  subst hsize hby
  obtain ⟨du, hdu, hdb⟩ := Option.map_eq_some_iff.1 hu
  have hmul : n + m ≤ (n + m) * i.bytes := Nat.le_mul_of_pos_right _ hb0
  have h63 : n + m ≤ 140737488355328 := Nat.le_trans hmul hbytes
  have hlen : (xs ++ news).length = (n + m) * i.size := by rw [List.length_append, hown.1, hsrc.length, Nat.add_mul]
  have hnz : ∀ k, du ≠ .int k := fun k hk => by subst hk; simp at hdb
  have grown : ∀ old, old < n + m → ∃ w', w' = w.drew.alloc (.cells (xs.toArray ++ news.toArray ++ Builtin.zeroCells z.cells (grownCap w (n + m) old e - (n + m))) e) ∧
      Own w' e i.size (.slice (some ⟨w.heap.size, 0, none⟩) (n + m) (grownCap w (n + m) old e)) (n + m) (xs ++ news) (some w.heap.size) ∧ Evo [] w w' := by
    intro old ho
    refine ⟨_, rfl, ⟨hlen, .inr ⟨w.heap.size, _, _, rfl, rfl, heap_alloc_new w.drew _, grownCap_ge w (n + m) old e, grownCap_le_maxLen w (n + m) old e (by unfold maxLen; omega), ?_, ?_⟩⟩, ⟨rfl, rfl, rfl, by simp, fun k hk _ => RowKit.Below.heap_alloc w.drew _ k hk⟩⟩
    · have hge := grownCap_ge w (n + m) old e
      simp only [Array.size_append, List.size_toArray, size_zeroCells, hzs, hown.1, hsrc.length, ← Nat.add_mul]
      congr 1
      omega
    · simp only [Array.toList_append, List.append_assoc]
      rw [← List.append_assoc, ← hlen]
      exact List.take_left
  rcases hown.2 with ⟨rfl, rfl, rfl⟩ | ⟨g, cap, cur, rfl, rfl, hg, hnc, hcm, hcs, htake⟩
  · have hx : xs = [] := List.eq_nil_of_length_eq_zero (by simpa using hown.1)
    subst hx
    by_cases hm : m = 0
    · subst hm
      have hn : news = [] := List.eq_nil_of_length_eq_zero (by simpa using hsrc.length)
      subst hn
      refine ⟨.slice none 0 0, w, none, ?_, ⟨by simp, .inl ⟨rfl, rfl, rfl⟩⟩, Evo.refl _ _, .inl rfl⟩
      have hc := hsrc.cells w rfl
      simp only [Builtin.append_, run_underlying ht, run_underlying hdu, sizeOf, typeInfo, hi, List.getElem?_toArray, List.getElem?_cons_zero, List.getElem?_cons_succ, Sem.run_bind, Sem.run_pure, Result.andThen_ok, run_program]
      simp [hi, hsrc.len, hc]
    · obtain ⟨w', hw', ho', he'⟩ := grown 0 (by omega)
      refine ⟨_, w', some w.heap.size, ?_, ho', he'.any _, .inr ⟨_, rfl, Nat.le_refl _, he'⟩⟩
      have hc := hsrc.cells w.drew rfl
      have hfit := growslice_fits (need := 0 + m) (old := 0) (by omega) hbytes
      simp only [Nat.zero_add] at hfit
      simp only [Builtin.append_, run_underlying ht, run_underlying hdu, sizeOf, typeInfo, hi, List.getElem?_toArray, List.getElem?_cons_zero, List.getElem?_cons_succ, Sem.run_bind, Sem.run_pure, Result.andThen_ok, run_program]
      simp [hi, hz, zeroValue, typeInfo, hsrc.len, hc, hm, show ¬ (9223372036854775807 < (m : Int)) by omega, show ¬ (281474976710656 < Builtin.nextslicecap m 0 * i.bytes) by omega, Question.forced, run_firstCells_none, newRow, grownCap, hw']
  · by_cases hroom : n + m ≤ cap
    · have hfit : n * i.size + 0 + news.length ≤ cur.size := by rw [hsrc.length, hcs, Nat.add_zero, ← Nat.add_mul]; exact Nat.mul_le_mul_right _ hroom
      obtain ⟨w', hr, hb', he'⟩ := qS (P := P) g e news (n * i.size) 0 cur w hg hfit hsrc.one
      refine ⟨.slice (some ⟨g, 0, none⟩) (n + m) cap, w', some g, ?_, ⟨hlen, .inr ⟨g, cap, _, rfl, rfl, hb', hroom, hcm, ?_, ?_⟩⟩, he', .inl rfl⟩
      · have hc := hsrc.cells w rfl
        have hadd : (⟨g, 0, none⟩ : Addr).add (n * i.size) = ⟨g, n * i.size, none⟩ := by unfold Addr.add; split <;> simp_all
        simp only [Builtin.append_, run_underlying ht, run_underlying hdu, sizeOf, typeInfo, hi, List.getElem?_toArray, List.getElem?_cons_zero, List.getElem?_cons_succ, Sem.run_bind, Sem.run_pure, Result.andThen_ok, run_program]
        simp [hi, hsrc.len, hc, hroom, hadd, hr]
      · simp only [List.size_toArray, List.length_append, List.length_take, List.length_drop, Array.length_toList]
        omega
      · simp only [Nat.add_zero] at htake ⊢
        rw [htake, ← hlen]
        exact List.take_left
    · obtain ⟨w', hw', ho', he'⟩ := grown cap (by omega)
      refine ⟨_, w', some w.heap.size, ?_, ho', he'.any _, .inr ⟨_, rfl, Nat.le_refl _, he'⟩⟩
      have hc := hsrc.cells w.drew rfl
      have hold := run_firstCells_some (P := P) w.drew i.size n ⟨g, 0, none⟩ n cap xs hown.1 (fun j v hv => by
        have hadd : (⟨g, 0, none⟩ : Addr).add j = ⟨g, j, none⟩ := by unfold Addr.add; split <;> simp_all
        rw [hadd]
        refine iJ hg ?_
        rw [← htake, List.getElem?_take] at hv
        split at hv
        · simpa using hv
        · cases hv)
      have hfit := growslice_fits (need := n + m) (old := cap) (by omega) hbytes
      simp only [Builtin.append_, run_underlying ht, run_underlying hdu, sizeOf, typeInfo, hi, List.getElem?_toArray, List.getElem?_cons_zero, List.getElem?_cons_succ, Sem.run_bind, Sem.run_pure, Result.andThen_ok, run_program]
      simp [hi, hz, zeroValue, typeInfo, hsrc.len, hc, hold, hroom, show ¬ (9223372036854775807 < (n : Int) + (m : Int)) by omega, show ¬ (281474976710656 < Builtin.nextslicecap (n + m) cap * i.bytes) by omega, Question.forced, newRow, grownCap, hw']
      rw [← Array.append_assoc, show xs.toArray ++ news.toArray = (xs ++ news).toArray from by simp]
def OwnS (w : World) (e : TypeId) (sz : Nat) (a : Option Addr) (n c : Nat) (xs : List Value) (ob : Option Nat) : Prop := Own w e sz (.slice a n c) n xs ob
theorem OwnS.nil (w : World) (e : TypeId) (sz : Nat) : OwnS w e sz none 0 0 [] none := ⟨by simp, .inl ⟨rfl, rfl, rfl⟩⟩
theorem OwnS.lt {w : World} {e : TypeId} {sz : Nat} {a : Option Addr} {n c : Nat} {xs : List Value} {g : Nat} (h : OwnS w e sz a n c xs (some g)) : g < w.heap.size := by
  rcases h.2 with ⟨_, _, h⟩ | ⟨g', _, _, hg, _, hb, _⟩
  · cases h
  · cases hg; exact eW hb
theorem OwnS.evo {X : List Nat} {w w' : World} {e : TypeId} {sz : Nat} {a : Option Addr} {n c : Nat} {xs : List Value} {ob : Option Nat} (h : OwnS w e sz a n c xs ob) (he : Evo X w w') (hx : ∀ g, ob = some g → g ∉ X) : OwnS w' e sz a n c xs ob := by
  refine ⟨h.1, ?_⟩
  rcases h.2 with h1 | ⟨g, cap, cur, hg, hv, hb, r⟩
  · exact .inl h1
  · exact .inr ⟨g, cap, cur, hg, hv, he.blk hb (hx g hg), r⟩
theorem OwnS.evo0 {w w' : World} {e : TypeId} {sz : Nat} {a : Option Addr} {n c : Nat} {xs : List Value} {ob : Option Nat} (h : OwnS w e sz a n c xs ob) (he : Evo [] w w') : OwnS w' e sz a n c xs ob := h.evo he (fun _ _ h => by cases h)
theorem OwnS.length {w : World} {e : TypeId} {sz : Nat} {a : Option Addr} {n c : Nat} {xs : List Value} {ob : Option Nat} (h : OwnS w e sz a n c xs ob) : xs.length = n * sz := h.1
theorem OwnS.le {w : World} {e : TypeId} {sz : Nat} {a : Option Addr} {n c : Nat} {xs : List Value} {ob : Option Nat} (h : OwnS w e sz a n c xs ob) : n ≤ c := by
  rcases h.2 with ⟨h1, rfl, _⟩ | ⟨g, cap, cur, _, hv, _, hn, _⟩
  · omega
  · cases hv; exact hn
theorem OwnS.at {w : World} {e : TypeId} {sz : Nat} {a : Option Addr} {n c : Nat} {xs : List Value} {ob : Option Nat} (h : OwnS w e sz a n c xs ob) (h0 : 0 < n) : ∃ g cur, ob = some g ∧ a = some ⟨g, 0, none⟩ ∧ w.heap[g]? = some (.cells cur e (0, 0)) ∧ cur.size = c * sz ∧ cur.toList.take (n * sz) = xs := by
  rcases h.2 with ⟨_, rfl, _⟩ | ⟨g, cap, cur, hg, hv, hb, hn, hc, hs, ht⟩
  · omega
  · cases hv; exact ⟨g, cur, hg, rfl, hb, hs, ht⟩
theorem OwnS.cells {w : World} {e : TypeId} {sz : Nat} {a : Option Addr} {n c : Nat} {xs : List Value} {ob : Option Nat} (h : OwnS w e sz a n c xs ob) (h0 : 0 < n) : ∃ g, ob = some g ∧ a = some ⟨g, 0, none⟩ ∧ CellsAt w g 0 xs := by
  obtain ⟨g, cur, hg, ha, hb, _, ht⟩ := h.at h0
  refine ⟨g, hg, ha, fun j v hv => iJ hb ?_⟩
  rw [← ht, List.getElem?_take] at hv
  split at hv
  · simpa using hv
  · cases hv
def HD (P : Program) (t u : TypeId) : Option (TypeId × Nat × Nat) :=
  match P.underlying t with
  | some (.slice e) => match P.info? e with
    | some i => match i.zero with
      | some z => if z.cells.size = i.size ∧ 0 < i.bytes ∧ intB P u = some false then some (e, i.size, i.bytes) else none
      | none => none
    | none => none
  | _ => none
section
variable {P : Program} {N : NN} {R : kK} {σ : Env} {w : World} {ops : Array Oper} {rest : List Oper} {d : Nat} {T : TypeId} {pos : String} {after : Array Edge}
theorem HY {s x : Operand} {t u e : TypeId} {ats : Array TypeId} {sz bytes n m c : Nat} {a : Option Addr} {vx : Value} {xs news : List Value} {ob : Option Nat} (hd : Nat.blt d N.1 = true) (hs : σ.ev s = some (.slice a n c)) (hx : σ.ev x = some vx) (hats : ats = #[t, u])
    (hf : HD P t u = some (e, sz, bytes)) (hown : OwnS w e sz a n c xs ob) (hsrc : Src P w sz vx m news) (hbytes : (n + m) * bytes ≤ 140737488355328)
    (h : ∀ a' c' w' ob', OwnS w' e sz a' (n + m) c' (xs ++ news) ob' → Evo ob.toList w w' → (ob' = ob ∨ ∃ g, ob' = some g ∧ w.heap.size ≤ g ∧ Evo [] w w') → WL P N ops R rest ((d, .slice a' (n + m) c') :: σ) w') :
    WL P N ops R (⟨some d, .call ⟨.builtin .append, #[s, x], ats⟩, T, pos, after, none⟩ :: rest) σ w := by
  subst hats
  simp only [HD] at hf
  split at hf <;> try cases hf
  rename_i e' ht
  split at hf <;> try cases hf
  rename_i i hi
  split at hf <;> try cases hf
  rename_i z hz
  split at hf <;> try cases hf
  rename_i hc
  obtain ⟨v', w', ob', hr, ho, he, hob⟩ := IC (ty := T) ht hc.2.2 hi hz rfl rfl hc.2.1 hc.1 hown hsrc hbytes
  have hv : ∃ a' c', v' = .slice a' (n + m) c' := by
    rcases ho.2 with ⟨h1, h2, _⟩ | ⟨g, cap, _, _, h1, _⟩
    · exact ⟨none, 0, by rw [h1, h2]⟩
    · exact ⟨_, _, h1⟩
  obtain ⟨a', c', rfl⟩ := hv
  refine jF (w' := w') hd (fun ρ ha => ?_) (h a' c' w' ob' ho he hob)
  simp [execOp, resolve, ha s _ hs, ha x _ hx, invoke, builtin, hr]
theorem dL {s x : Operand} {t u e : TypeId} {ats : Array TypeId} {sz bytes n m c : Nat} {a : Option Addr} {vx : Value} {xs news : List Value} {ob : Option Nat} (hd : Nat.blt d N.1 = true) (hs : σ.ev s = some (.slice a n c)) (hx : σ.ev x = some vx) (hats : ats = #[t, u])
    (hf : HD P t u = some (e, sz, bytes)) (hown : OwnS w e sz a n c xs ob) (hsrc : Src P w sz vx m news) (hbytes : (n + m) * bytes ≤ 140737488355328)
    (h : ∀ a' c' w' ob', OwnS w' e sz a' (n + m) c' (xs ++ news) ob' → Evo ob.toList w w' → (ob' = ob ∨ ∃ g, ob' = some g ∧ w.heap.size ≤ g) → WL P N ops R rest ((d, .slice a' (n + m) c') :: σ) w') :
    WL P N ops R (⟨some d, .call ⟨.builtin .append, #[s, x], ats⟩, T, pos, after, none⟩ :: rest) σ w :=
  HY hd hs hx hats hf hown hsrc hbytes fun a' c' w' ob' h1 h2 h3 => h a' c' w' ob' h1 h2 (h3.imp id fun ⟨g, k1, k2, _⟩ => ⟨g, k1, k2⟩)
theorem SV (sz : Nat) : ∀ (vs : List Value) (k : Nat) (pre post : List Value), (∀ v, v ∈ vs → v.cells.size = sz) → pre.length = k * sz → post.length = vs.length * sz →
    Instr.fill (fun i => some (i * sz, sz)) (pre ++ post).toArray ((vs.zipIdx k).map fun p => (p.2, p.1)) = some (pre ++ vs.flatMap (fun v => v.cells.toList)).toArray := by
  intro vs
  induction vs with
  | nil => intro k pre post _ _ hpost; have : post = [] := List.eq_nil_of_length_eq_zero (by simpa using hpost); subst this; simp [Instr.fill]
  | cons v vs ih =>
    intro k pre post hsz hpre hpost
    have hv := hsz v (by simp)
    have hpl : post.length = sz + vs.length * sz := by rw [hpost, List.length_cons, Nat.add_mul]; omega
    have key : ∀ (l : List Value) (j : Nat) (p q : List Value), p.length = k * sz + j → l.length ≤ q.length →
        (l.zipIdx j).foldl (fun (cs : Array Value) x => cs.setIfInBounds (k * sz + x.2) x.1) (p ++ q).toArray = (p ++ l ++ q.drop l.length).toArray := by
      intro l
      induction l with
      | nil => intro j p q _ _; simp
      | cons c l ihl =>
        intro j p q hp hq
        cases q with
        | nil => simp at hq
        | cons q0 q =>
          have := ihl (j + 1) (p ++ [c]) q (by simp [hp]; omega) (by simpa using hq)
          simp only [List.zipIdx_cons, List.foldl_cons, List.setIfInBounds_toArray]
          rw [show (p ++ q0 :: q).set (k * sz + j) c = p ++ [c] ++ q from by rw [← hp]; simp]
          simpa using this
    have hk := key v.cells.toList 0 pre post (by simpa using hpre) (by simp [hv]; omega)
    simp only [List.zipIdx_cons, List.map_cons, Instr.fill]
    rw [if_neg (by simp [hv, hpre, hpl])]
    rw [← Array.foldl_toList, Array.toList_zipIdx, hk]
    have h2 := ih (k + 1) (pre ++ v.cells.toList) (post.drop v.cells.toList.length) (fun u hu => hsz u (List.mem_cons_of_mem _ hu)) (by simp [hpre, hv, Nat.add_mul]) (by simp [hv, hpl])
    rw [h2]
    simp
def sS (P : Program) (t : TypeId) : Option (TypeId × Nat) :=
  match P.underlying t with
  | some (.slice e) => match P.info? e with
    | some i => match i.zero with
      | some z => if z.cells.size = i.size then some (e, i.size) else none
      | none => none
    | none => none
  | _ => none
theorem bL {t e : TypeId} {sz len : Nat} {parts : Array (Nat × Operand)} {vs : List Value} (hd : Nat.blt d N.1 = true) (hf : sS P t = some (e, sz)) (hp : parts.toList.map (fun p => (p.1, σ.ev p.2)) = vs.zipIdx.map (fun q => (q.2, some q.1)))
    (hlen : vs.length = len) (hsz : vs.all (fun v => Nat.beq v.cells.size sz) = true) (hle : Nat.ble (len * sz + len) 16777216 = true)
    (h : ∀ b w', OwnS w' e sz (some ⟨b, 0, none⟩) len len (vs.flatMap fun v => v.cells.toList) (some b) → w.heap.size = b → Evo [] w w' → WL P N ops R rest ((d, .slice (some ⟨b, 0, none⟩) len len) :: σ) w') :
    WL P N ops R (⟨some d, .buildSlice t len parts, T, pos, after, none⟩ :: rest) σ w := by
  simp only [sS] at hf
  split at hf <;> try cases hf
  rename_i e' ht
  split at hf <;> try cases hf
  rename_i i hi
  split at hf <;> try cases hf
  rename_i z hz
  split at hf <;> try cases hf
  rename_i hc
  have hvs : ∀ v, v ∈ vs → v.cells.size = i.size := fun v hv => Nat.eq_of_beq_eq_true (List.all_eq_true.1 hsz v hv)
  have hfl : (vs.flatMap fun v => v.cells.toList).length = len * i.size := by
    rw [← hlen]; clear hp hlen hsz hle h
    induction vs with
    | nil => simp
    | cons v vs ih => simp [ih (fun u hu => hvs u (List.mem_cons_of_mem _ hu)), hvs v (by simp), Nat.add_mul]; omega
  have hle' : len * i.size + len ≤ 16777216 := Nat.le_of_ble_eq_true hle
  refine jF (w' := w.alloc (.cells (vs.flatMap fun v => v.cells.toList).toArray e)) hd (fun ρ ha => ?_) (h w.heap.size _ ⟨hfl, .inr ⟨w.heap.size, len, _, rfl, rfl, heap_alloc_new w _, Nat.le_refl _, ?_, by simp [hfl], ?_⟩⟩ rfl (pJ w _))
  · have hparts : (parts.map fun p => (p.1, ρ p.2)).toList = (vs.zipIdx 0).map fun p => (p.2, p.1) := by
      rw [Array.toList_map]
      clear h hlen hsz hvs hfl hle hle'
      revert hp
      generalize parts.toList = l
      generalize vs.zipIdx 0 = q
      intro hp
      induction l generalizing q with
      | nil => cases q with | nil => rfl | cons _ _ => simp at hp
      | cons p l ih =>
        cases q with
        | nil => simp at hp
        | cons x q =>
          simp only [List.map_cons, List.cons.injEq, Prod.mk.injEq] at hp ⊢
          exact ⟨⟨hp.1.1, ha _ _ hp.1.2⟩, ih q hp.2⟩
    have hfill := SV i.size vs 0 [] (List.map (fun j => z.cells[j % z.cells.size]!) (List.range (len * i.size))) hvs (by simp) (by simp [hlen])
    simp only [List.nil_append] at hfill
    have harr : ((Array.range (len * i.size)).map fun j => z.cells[j % z.cells.size]!) = (List.map (fun j => z.cells[j % z.cells.size]!) (List.range (len * i.size))).toArray := by
      apply Array.toList_inj.1; simp
    rw [← harr, ← hparts] at hfill
    simp only [execOp, Instr.buildSlice, run_underlying ht, sizeOf, typeInfo, hi, Sem.run_bind, Sem.run_pure, Result.andThen_ok, run_program, zeroValue]
    rw [Array.toList_map] at hfill
    by_cases h0 : len * i.size = 0
    · have hr0 : Array.range 0 = #[] := rfl
      simp only [h0, hr0, Array.map_empty] at hfill
      simp only [hi, h0, hr0, if_true, Sem.run_bind, Sem.run_pure, Result.andThen_ok, run_program, Array.map_empty, Array.toList_map]
      simp [hfill, newRow]
    · have hzz : (zeroValue e).run P w = .ok z w := by simp [zeroValue, typeInfo, hi, hz]
      simp [hi, hz, h0, newRow, show ¬ (16777216 < len * i.size) by omega, hfill]
  · unfold maxLen; omega
  · rw [← hfl]; exact List.take_length
end
section
variable {P : Program} {N : NN} {R : kK} {σ : Env} {w : World} {ops : Array Oper} {rest : List Oper} {d : Nat} {op : Op} {T : TypeId} {pos : String} {after : Array Edge}
def QL (P : Program) (N : NN) (ops : Array Oper) (w : World) (R : kK) (l : List Oper) (σ : Env) : Prop :=
  ∀ a, Fits N σ a → wpQuiet P ops (fun w' => ∃ n, w' = w.drewN n) (fun a' => ∀ w', (∃ n, w' = w.drewN n) → toQ R .normal a' w') l a
theorem AZ (w : World) (n : Nat) : Evo [] w (w.drewN n) := ⟨rfl, rfl, rfl, Nat.le_refl _, fun _ _ _ => rfl⟩
theorem fH {id : Nat} {l : List Oper} (hm : P.follows .mixedOrders = true) (hB : Region.lexB .any l.toArray = true) (h : QL P N l.toArray w R l σ) : CW P N (.region id l.toArray true) R σ w :=
  fun a ha => wp_region_quiet_lit hm hB (h a ha)
theorem fP (h : ∀ w', Evo [] w w' → R .normal N σ w') : QL P N ops w R [] σ := fun _ ha => wpQuiet_nil fun w' ⟨n, hn⟩ => ⟨N, σ, ha, h w' (hn ▸ AZ w n)⟩
theorem ql_val {r : Value} (hd : Nat.blt d N.1 = true) (hx : ∀ w', Evo [] w w' → Ex P σ ⟨some d, op, T, pos, after, none⟩ w' r w') (h : QL P N ops w R rest ((d, r) :: σ)) :
    QL P N ops w R (⟨some d, op, T, pos, after, none⟩ :: rest) σ := fun a ha => by
  refine wpQuiet_step fun K hK => ?_
  rw [if_pos (by simp [Region.wanted])]
  refine ⟨r, ?_, hK _ (h _ (ha.put (of_decide_eq_true (by simpa using hd)) r))⟩
  rintro w' ⟨n, rfl⟩
  unfold Oper.quietAt
  rw [hx _ (AZ w n) a.eval ha.agrees]
  exact ⟨rfl, rfl⟩
theorem bM {r : Value} (hx : ∀ w', Evo [] w w' → Ex P σ ⟨some d, op, T, pos, after, none⟩ w' r w') (h : QL P N ops w R rest ((d, r) :: σ)) (hd : Nat.blt d N.1 = true := by rfl) : QL P N ops w R (⟨some d, op, T, pos, after, none⟩ :: rest) σ := ql_val hd hx h
theorem ql_go {dst : Option Nat} {j : Nat} {pol : Bool} {oj : Oper} {t : Nat} (hj : ops[j]? = some oj) (ht : oj.dst = some t) (hv : σ.get t = some (.bool pol)) (hN : Nat.blt t N.1 = true)
    (h : QL P N ops w R (⟨dst, op, T, pos, after, none⟩ :: rest) σ) : QL P N ops w R (⟨dst, op, T, pos, after, some (j, pol)⟩ :: rest) σ := fun a ha => by
  have h1 := h a ha
  have hg : Region.wanted (⟨dst, op, T, pos, after, some (j, pol)⟩ : Oper) (yielded ops a.tmps) = true := by
    have hs : t < a.tmps.size := by rw [ha.1]; exact of_decide_eq_true (by simpa using hN)
    have := ha.2.2 t _ hv
    simp only [Array.getD_eq_getD_getElem?, Array.getElem?_eq_getElem hs, Option.getD_some] at this
    simp [Region.wanted, yielded, hj, ht, Array.getElem?_eq_getElem hs, this]
  unfold wpQuiet at h1 ⊢
  rw [if_pos hg]
  rw [if_pos (by simp [Region.wanted])] at h1
  exact h1
theorem qlg {dst : Option Nat} {j : Nat} {pol : Bool} {oj : Oper} {t : Nat} (h : QL P N ops w R (⟨dst, op, T, pos, after, none⟩ :: rest) σ) (hj : ops[j]? = some oj := by rfl) (ht : oj.dst = some t := by rfl) (hv : σ.get t = some (.bool pol) := by rfl) (hN : Nat.blt t N.1 = true := by rfl) : QL P N ops w R (⟨dst, op, T, pos, after, some (j, pol)⟩ :: rest) σ := ql_go hj ht hv hN h
theorem ql_no {j : Nat} {pol b : Bool} {oj : Oper} {t : Nat} (hj : ops[j]? = some oj) (ht : oj.dst = some t) (hv : σ.get t = some (.bool b)) (hb : b = !pol) (hN : Nat.blt t N.1 = true) (hd : Nat.blt d N.1 = true)
    (h : QL P N ops w R rest ((d, undef) :: σ)) : QL P N ops w R (⟨some d, op, T, pos, after, some (j, pol)⟩ :: rest) σ := fun a ha => by
  have hg : Region.wanted (⟨some d, op, T, pos, after, some (j, pol)⟩ : Oper) (yielded ops a.tmps) = false := by
    have hs : t < a.tmps.size := by rw [ha.1]; exact of_decide_eq_true (by simpa using hN)
    have := ha.2.2 t _ hv
    simp only [Array.getD_eq_getD_getElem?, Array.getElem?_eq_getElem hs, Option.getD_some] at this
    subst hb
    cases pol <;> simp [Region.wanted, yielded, hj, ht, Array.getElem?_eq_getElem hs, this]
  unfold wpQuiet
  rw [if_neg (by rw [hg]; simp)]
  exact h _ (ha.put (of_decide_eq_true (by simpa using hd)) _)
theorem qln {j : Nat} {pol b : Bool} {oj : Oper} {t : Nat} (h : QL P N ops w R rest ((d, undef) :: σ)) (hj : ops[j]? = some oj := by rfl) (ht : oj.dst = some t := by rfl) (hv : σ.get t = some (.bool b) := by rfl) (hb : b = !pol := by rfl) (hN : Nat.blt t N.1 = true := by rfl) (hd : Nat.blt d N.1 = true := by rfl) : QL P N ops w R (⟨some d, op, T, pos, after, some (j, pol)⟩ :: rest) σ := ql_no hj ht hv hb hN hd h
theorem Fits.split {t : Nat} {b c : Bool} {a : Act} (hv : σ.get t = some (.bool b)) (he : b = c) (ha : Fits N σ a) : Fits N ((t, .bool c) :: σ) a :=
  ⟨ha.1, ha.2.1, fun u v hu => by
    simp only [Env.get] at hu
    cases hb : Nat.beq t u with
    | true =>
      rw [hb] at hu
      have : t = u := Nat.eq_of_beq_eq_true hb
      subst this
      simp only [cond_true, Option.some.injEq] at hu
      rw [← hu, ha.2.2 t _ hv, he]
    | false => rw [hb] at hu; exact ha.2.2 u v hu⟩
theorem kX {l : List Oper} {t : Nat} {p : Prop} [Decidable p] (hv : σ.get t = some (.bool (decide p))) (ht : p → QL P N ops w R l ((t, .bool true) :: σ)) (hf : ¬ p → QL P N ops w R l ((t, .bool false) :: σ)) : QL P N ops w R l σ := by
  intro a ha
  by_cases h : p
  · exact ht h a (ha.split hv (decide_eq_true h))
  · exact hf h a (ha.split hv (decide_eq_false h))
end
abbrev Rel (α : Type) := List Nat → World → List Value → α → Prop
def Rel.Pers {α : Type} (R : Rel α) : Prop := ∀ X w w' vs d, Evo X w w' → R X w vs d → R X w' vs d
def Rel.Fresh {α : Type} (R : Rel α) : Prop := ∀ X Y w vs d, (∀ y, y ∈ Y → y ∈ X ∨ w.heap.size ≤ y) → R X w vs d → R Y w vs d
def RSl {α : Type} (sz : Nat) (R : Rel α) (X : List Nat) (w : World) (v : Value) (ds : List α) : Prop :=
  ∃ a c, v = .slice a ds.length c ∧ ds.length ≤ c ∧ ∀ k (hk : k < ds.length), ∃ b o vs, a = some ⟨b, o, none⟩ ∧ b ∉ X ∧ vs.length = sz ∧ CellsAt w b (o + k * sz) vs ∧ R X w vs ds[k]
theorem RSl.evo {α : Type} {sz : Nat} {R : Rel α} (hR : R.Pers) {X : List Nat} {w w' : World} {v : Value} {ds : List α} (he : Evo X w w') (h : RSl sz R X w v ds) : RSl sz R X w' v ds := by
  obtain ⟨a, c, hv, hc, h⟩ := h
  refine ⟨a, c, hv, hc, fun k hk => ?_⟩
  obtain ⟨b, o, vs, ha, hb, hl, hcs, hr⟩ := h k hk
  exact ⟨b, o, vs, ha, hb, hl, hcs.evo he hb, hR _ _ _ _ _ he hr⟩
def RInt (k : IntKind) : Rel Int := fun _ _ vs n => vs = [.int k n] ∧ k.min ≤ n ∧ n ≤ k.max
def RBool : Rel Bool := fun _ _ vs b => vs = [.bool b]
def RStr : Rel ByteArray := fun _ _ vs s => vs = [.string s]
def RSlice {α : Type} (sz : Nat) (R : Rel α) : Rel (List α) := fun X w vs ds => ∃ v, vs = [v] ∧ RSl sz R X w v ds
theorem RInt.pers (k : IntKind) : (RInt k).Pers := fun _ _ _ _ _ _ h => h
theorem RBool.pers : RBool.Pers := fun _ _ _ _ _ _ h => h
theorem RStr.pers : RStr.Pers := fun _ _ _ _ _ _ h => h
theorem RSlice.pers {α : Type} {sz : Nat} {R : Rel α} (hR : R.Pers) : (RSlice sz R).Pers := fun _ _ _ _ _ he ⟨v, hv, h⟩ => ⟨v, hv, h.evo hR he⟩
def Apart (o p : Option Nat) : Prop := ∀ g, o = some g → p = some g → False
def Ge (w : World) (o : Option Nat) : Prop := ∀ g, o = some g → w.heap.size ≤ g
def Lt (w : World) (o : Option Nat) : Prop := ∀ g, o = some g → g < w.heap.size
theorem Apart.symm {o p : Option Nat} (h : Apart o p) : Apart p o := fun g h1 h2 => h g h2 h1
theorem Lt.blk {w : World} {b : Nat} {o : Obj} (h : w.heap[b]? = some o) : Lt w (some b) := fun g hg => by cases hg; exact eW h
theorem Lt.own {w : World} {e : TypeId} {sz : Nat} {a : Option Addr} {n c : Nat} {xs : List Value} {ob : Option Nat} (h : OwnS w e sz a n c xs ob) : Lt w ob := fun g hg => by subst hg; exact h.lt
theorem Lt.nil (w : World) : Lt w none := fun g hg => by cases hg
theorem Apart.new {w : World} {o : Option Nat} {b : Nat} (h : Lt w o) (hs : w.heap.size = b) : Apart o (some b) := fun g h1 h2 => by have h3 := Option.some.inj h2; have := h g h1; omega
theorem Apart.fresh {w : World} {o p : Option Nat} (h : Lt w o) (hs : Ge w p) : Apart o p := fun g h1 h2 => by have := h g h1; have := hs g h2; omega
theorem Apart.nil (o : Option Nat) : Apart o Option.none := fun _ _ h => by cases h
theorem Apart.app {w : World} {o ob ob' : Option Nat} (h : Apart o ob) (hl : Lt w o) (hob : ob' = ob ∨ ∃ g, ob' = some g ∧ w.heap.size ≤ g) : Apart o ob' := fun g h1 h2 => by
  rcases hob with rfl | ⟨g', rfl, hg⟩
  · exact h g h1 h2
  · cases h2; have := hl g h1; omega
theorem Apart.nmem {b : Nat} {ob : Option Nat} (h : Apart (some b) ob) : b ∉ ob.toList := fun hm => by
  cases ob with
  | none => cases hm
  | some g => exact h g (by simp at hm; rw [hm]) rfl
theorem Apart.nmem1 {b c : Nat} (h : Apart (some b) (some c)) : b ∉ [c] := h.nmem
theorem Apart.own {o ob : Option Nat} (h : Apart o ob) : ∀ g, o = some g → g ∉ ob.toList := fun g hg => by subst hg; exact h.nmem
theorem Apart.own1 {o : Option Nat} {c : Nat} (h : Apart o (some c)) : ∀ g, o = some g → g ∉ [c] := fun g hg => by subst hg; exact h.nmem
theorem Ge.nil (w : World) : Ge w none := fun g h => by cases h
theorem Ge.new {X : List Nat} {a w : World} {b : Nat} (h : Evo X a w) (hs : w.heap.size = b) : Ge a (some b) := fun g hg => by cases hg; have := h.size; omega
theorem Ge.fresh {X : List Nat} {a w : World} {o : Option Nat} (h : Evo X a w) (hs : Ge w o) : Ge a o := fun g hg => by have := h.size; have := hs g hg; omega
theorem Ge.app {X : List Nat} {a w : World} {ob ob' : Option Nat} (h : Ge a ob) (he : Evo X a w) (hob : ob' = ob ∨ ∃ g, ob' = some g ∧ w.heap.size ≤ g) : Ge a ob' := fun g h2 => by
  rcases hob with rfl | ⟨g', rfl, hg⟩
  · exact h g h2
  · cases h2; have := he.size; omega
theorem Ge.mem {X : List Nat} {a : World} {ob : Option Nat} (h : Ge a ob) : ∀ y, y ∈ ob.toList → y ∈ X ∨ a.heap.size ≤ y := fun y hy => by
  cases ob with
  | none => cases hy
  | some g => simp at hy; subst hy; exact .inr (h _ rfl)
theorem Ge.mem1 {X : List Nat} {a : World} {b : Nat} (h : Ge a (some b)) : ∀ y, y ∈ [b] → y ∈ X ∨ a.heap.size ≤ y := h.mem
theorem Src.ofOwn {P : Program} {w : World} {e : TypeId} {sz : Nat} {a : Option Addr} {n c : Nat} {xs : List Value} {ob : Option Nat} (h : OwnS w e sz a n c xs ob) (h1 : AllOne xs) : Src P w sz (.slice a n c) n xs := by
  have h1' := h1.mem
  rcases Nat.eq_zero_or_pos n with h0 | h0
  · subst h0
    have hx : xs = [] := List.eq_nil_of_length_eq_zero (by simpa using h.1)
    subst hx
    refine ⟨fun _ => rfl, fun w2 _ => ?_, by simp, h1'⟩
    cases a with
    | none => rfl
    | some a => simp [Builtin.firstCells, loadCells, loadCellsFrom]
  · obtain ⟨g, _, rfl, hc⟩ := h.cells h0
    exact Src.slice h.1 hc h1'
theorem RSl.one {α : Type} {sz : Nat} {R : Rel α} {X : List Nat} {w : World} {v : Value} {ds : List α} (h : RSl sz R X w v ds) : v.oneCell' = true := by
  obtain ⟨_, _, rfl, _⟩ := h; rfl
theorem RSl.cell {α : Type} {sz : Nat} {R : Rel α} {X : List Nat} {w : World} {v : Value} {ds : List α} (h : RSl sz R X w v ds) : v.cells = #[v] := by
  obtain ⟨_, _, rfl, _⟩ := h; rfl
theorem RSl.src {α : Type} {P : Program} {sz : Nat} {R : Rel α} {X : List Nat} {w w' : World} {v : Value} {ds : List α} (h : RSl sz R X w v ds) (he : Evo X w w') (h1 : ∀ X w vs d, R X w vs d → ∀ u, u ∈ vs → u.oneCell' = true) :
    ∃ rows : List (List Value), rows.length = ds.length ∧ (∀ k (hk : k < ds.length) (hk' : k < rows.length), rows[k].length = sz ∧ R X w rows[k] ds[k]) ∧ Src P w' sz v ds.length rows.flatten := by
  obtain ⟨a, c, rfl, hc, h⟩ := h
  rcases Nat.eq_zero_or_pos ds.length with h0 | h0
  · refine ⟨[], by simp [h0], fun k hk => by omega, ?_⟩
    refine ⟨fun _ => rfl, fun w2 _ => ?_, by simp [h0], fun u hu => by simp at hu⟩
    rw [h0]
    cases a with
    | none => rfl
    | some a => simp [Builtin.firstCells, loadCells, loadCellsFrom]
  · obtain ⟨b, o, _, ha, hbX, _⟩ := h 0 h0
    subst ha
    have hex : ∀ n, n ≤ ds.length → ∃ rows : List (List Value), rows.length = n ∧ (∀ k (hk : k < ds.length) (hk' : k < rows.length), rows[k].length = sz ∧ CellsAt w b (o + k * sz) rows[k] ∧ R X w rows[k] ds[k]) := by
      intro n
      induction n with
      | zero => exact fun _ => ⟨[], rfl, fun k _ hk' => by simp at hk'⟩
      | succ n ih =>
        intro hn
        obtain ⟨rows, hl, hr⟩ := ih (by omega)
        obtain ⟨b', o', vs, hb, _, hlen, hcs, hR⟩ := h n (by omega)
        cases hb
        refine ⟨rows ++ [vs], by simp [hl], fun k hk hk' => ?_⟩
        by_cases hkn : k < n
        · rw [List.getElem_append_left (by omega)]
          exact hr k hk (by omega)
        · obtain rfl : k = n := by simp [hl] at hk'; omega
          rw [List.getElem_append_right (by omega)]
          simp only [hl, Nat.sub_self, List.getElem_cons_zero]
          exact ⟨hlen, hcs, hR⟩
    obtain ⟨rows, hl, hr⟩ := hex ds.length (Nat.le_refl _)
    refine ⟨rows, hl, fun k hk hk' => ⟨(hr k hk hk').1, (hr k hk hk').2.2⟩, ?_⟩
    have hcells : ∀ (rs : List (List Value)) (k : Nat), (∀ j (hj : j < rs.length), rs[j].length = sz ∧ CellsAt w b (o + (k + j) * sz) rs[j]) → CellsAt w b (o + k * sz) rs.flatten := by
      intro rs
      induction rs with
      | nil => intro k _ j v hv; simp at hv
      | cons r rs ih =>
        intro k hk j v hv
        simp only [List.flatten_cons, List.getElem?_append] at hv
        have h0 := hk 0 (by simp)
        split at hv
        · have := h0.2 j v (by simpa using hv)
          simpa using this
        · have hrs := ih (k + 1) (fun j hj => by have := hk (j + 1) (by simpa using hj); simp only [List.getElem_cons_succ] at this; rw [show k + 1 + j = k + (j + 1) by omega]; exact this) (j - r.length) v hv
          have hrl : r.length = sz := h0.1
          rw [show o + k * sz + j = o + (k + 1) * sz + (j - r.length) by rw [Nat.add_mul]; omega]
          exact hrs
    have hlen : ∀ (rs : List (List Value)), (∀ r, r ∈ rs → r.length = sz) → rs.flatten.length = rs.length * sz := by
      intro rs
      induction rs with
      | nil => intro _; simp
      | cons r rs ih => intro hk; simp [ih (fun r hr => hk r (List.mem_cons_of_mem _ hr)), hk r (by simp), Nat.add_mul]; omega
    have hall : ∀ r, r ∈ rows → r.length = sz ∧ ∀ u, u ∈ r → u.oneCell' = true := fun r hr' => by
      obtain ⟨k, hk, rfl⟩ := List.getElem_of_mem hr'
      have := hr k (by omega) hk
      exact ⟨this.1, h1 _ _ _ _ this.2.2⟩
    refine Src.slice (by rw [hlen rows (fun r h => (hall r h).1), hl]) (CellsAt.evo (w := w) (X := X) ?_ he hbX) (fun u hu => by obtain ⟨r, hr', hu'⟩ := List.mem_flatten.1 hu; exact (hall r hr').2 u hu')
    have := hcells rows 0 (fun j hj => ⟨(hr j (by omega) hj).1, by simpa using (hr j (by omega) hj).2.1⟩)
    simpa using this
theorem RSl.fresh {α : Type} {sz : Nat} {R : Rel α} (hsz : 0 < sz) (hR : R.Fresh) {X Y : List Nat} {w : World} {v : Value} {ds : List α} (hy : ∀ y, y ∈ Y → y ∈ X ∨ w.heap.size ≤ y) (h : RSl sz R X w v ds) : RSl sz R Y w v ds := by
  obtain ⟨a, c, hv, hc, h⟩ := h
  refine ⟨a, c, hv, hc, fun k hk => ?_⟩
  obtain ⟨b, o, vs, ha, hb, hl, hcs, hr⟩ := h k hk
  refine ⟨b, o, vs, ha, fun hbY => ?_, hl, hcs, hR _ _ _ _ _ hy hr⟩
  rcases hy b hbY with h1 | h1
  · exact hb h1
  · cases vs with
    | nil => simp at hl; omega
    | cons v0 vs =>
      have := World.block_lt_of_cell? w _ (hcs 0 v0 (by simp))
      simp only at this
      omega
theorem RInt.fresh (k : IntKind) : (RInt k).Fresh := fun _ _ _ _ _ _ h => h
theorem RBool.fresh : RBool.Fresh := fun _ _ _ _ _ _ h => h
theorem RStr.fresh : RStr.Fresh := fun _ _ _ _ _ _ h => h
theorem RStr.one : ∀ X w vs d, RStr X w vs d → ∀ u, u ∈ vs → u.oneCell' = true := fun _ _ _ _ h u hu => by
  cases h; simp at hu; subst hu; rfl
theorem RSlice.fresh {α : Type} {sz : Nat} {R : Rel α} (hsz : 0 < sz) (hR : R.Fresh) : (RSlice sz R).Fresh := fun _ _ _ _ _ hy ⟨v, hv, h⟩ => ⟨v, hv, h.fresh hsz hR hy⟩
def RowsOk {α : Type} (sz : Nat) (R : Rel α) (X : List Nat) (w : World) (rows : List (List Value)) (ds : List α) : Prop :=
  rows.length = ds.length ∧ ∀ k (h : k < ds.length) (h' : k < rows.length), rows[k].length = sz ∧ R X w rows[k] ds[k]
theorem RowsOk.evo {α : Type} {sz : Nat} {R : Rel α} (hR : R.Pers) {X : List Nat} {w w' : World} {rows : List (List Value)} {ds : List α} (h : RowsOk sz R X w rows ds) (he : Evo X w w') : RowsOk sz R X w' rows ds :=
  ⟨h.1, fun k hk hk' => ⟨(h.2 k hk hk').1, hR _ _ _ _ _ he (h.2 k hk hk').2⟩⟩
theorem RowsOk.fresh {α : Type} {sz : Nat} {R : Rel α} (hR : R.Fresh) {X Y : List Nat} {w : World} {rows : List (List Value)} {ds : List α} (hy : ∀ y, y ∈ Y → y ∈ X ∨ w.heap.size ≤ y) (h : RowsOk sz R X w rows ds) : RowsOk sz R Y w rows ds :=
  ⟨h.1, fun k hk hk' => ⟨(h.2 k hk hk').1, hR _ _ _ _ _ hy (h.2 k hk hk').2⟩⟩
theorem RowsOk.set {α : Type} {sz : Nat} {R : Rel α} {X : List Nat} {w : World} {rows : List (List Value)} {ds : List α} (h : RowsOk sz R X w rows ds) {i : Nat} (hi : i < ds.length) {r : List Value} (hl : r.length = sz) (hr : R X w r ds[i]) : RowsOk sz R X w (rows.set i r) ds := by
  refine ⟨by simp [h.1], fun k hk hk' => ?_⟩
  by_cases e : i = k
  · subst e; simp only [List.getElem_set_self]; exact ⟨hl, hr⟩
  · simp only [List.getElem_set_ne e]; exact h.2 k hk (by simpa using hk')
theorem RowsOk.nil {α : Type} (sz : Nat) (R : Rel α) (X : List Nat) (w : World) : RowsOk sz R X w [] [] := ⟨rfl, fun k hk => by simp at hk⟩
theorem RowsOk.flen {α : Type} {sz : Nat} {R : Rel α} {X : List Nat} {w : World} {rows : List (List Value)} {ds : List α} (h : RowsOk sz R X w rows ds) : ∀ r, r ∈ rows → r.length = sz := fun r hr => by
  obtain ⟨k, hk, rfl⟩ := List.getElem_of_mem hr
  exact (h.2 k (by rw [← h.1]; exact hk) hk).1
theorem GK {sz : Nat} : ∀ {rows : List (List Value)} (_ : ∀ r, r ∈ rows → r.length = sz) {k j : Nat} (hk : k < rows.length) (_ : j < sz), rows.flatten[k * sz + j]? = rows[k][j]? := by
  intro rows
  induction rows with
  | nil => intro _ k j hk; simp at hk
  | cons r rows ih =>
    intro h k j hk hj
    have hr := h r (by simp)
    cases k with
    | zero => simp [List.getElem?_append, hr, hj]
    | succ k =>
      have := ih (fun r hr => h r (List.mem_cons_of_mem _ hr)) (k := k) (j := j) (by simpa using hk) hj
      simp only [List.flatten_cons, List.getElem?_append, hr, List.getElem_cons_succ]
      rw [if_neg (by rw [Nat.add_mul]; omega), show (k + 1) * sz + j - sz = k * sz + j by rw [Nat.add_mul]; omega, this]
theorem OwnS.set {w w' : World} {e : TypeId} {sz : Nat} {a : Option Addr} {n c : Nat} {xs : List Value} {g : Nat} {cur : Array Value} {U : TypeId} {i : Nat} {v : Value} (h : OwnS w e sz a n c xs (some g)) (hb : w.heap[g]? = some (.cells cur U (0, 0))) (hb' : w'.heap[g]? = some (.cells (cur.setIfInBounds i v) U (0, 0))) : OwnS w' e sz a n c (xs.set i v) (some g) := by
  refine ⟨by simp [h.1], ?_⟩
  rcases h.2 with ⟨_, _, h2⟩ | ⟨g', cap, cur', hg, hv, hbb, hn, hc, hs, ht⟩
  · cases h2
  · cases hg
    rw [hb] at hbb
    cases hbb
    refine .inr ⟨g, cap, _, rfl, hv, hb', hn, hc, by simp [hs], ?_⟩
    rw [← ht]
    simp [List.take_set]
theorem OwnS.set' {w w' : World} {e : TypeId} {sz : Nat} {a : Option Addr} {n c : Nat} {xs : List Value} {ob : Option Nat} {g : Nat} {cur : Array Value} {U : TypeId} {i : Nat} {v : Value} (h : OwnS w e sz a n c xs ob) (hg : ob = some g) (hb : w.heap[g]? = some (.cells cur U (0, 0))) (hb' : w'.heap[g]? = some (.cells (cur.setIfInBounds i v) U (0, 0))) : OwnS w' e sz a n c (xs.set i v) ob := by
  subst hg; exact h.set hb hb'
theorem sY {w w' : World} {ob : Option Nat} {g : Nat} (hg : ob = some g) (h : Evo [g] w w') : Evo ob.toList w w' := by subst hg; exact h
theorem OwnS.inb {w : World} {e : TypeId} {sz : Nat} {a : Option Addr} {n c k j o : Nat} {xs : List Value} {ob : Option Nat} {cur : Array Value} (h : OwnS w e sz a n c xs ob) (hs : cur.size = c * sz) (hk : k < n) (hj : j < sz) (ho : o = k * sz + j) : o < cur.size := by
  have h1 := h.le
  have h2 : (k + 1) * sz ≤ c * sz := Nat.mul_le_mul_right _ (by omega)
  rw [hs, ho]
  rw [Nat.add_mul] at h2
  omega
theorem RSl.ofOwn {α : Type} {sz : Nat} {R : Rel α} {X : List Nat} {w : World} {e : TypeId} {a : Option Addr} {n c : Nat} {rows : List (List Value)} {ds : List α} {ob : Option Nat} (h : OwnS w e sz a n c rows.flatten ob) (hr : RowsOk sz R X w rows ds) (hn : ds.length = n) (hx : ∀ g, ob = some g → g ∉ X) :
    RSl sz R X w (.slice a n c) ds := by
  subst hn
  refine ⟨a, c, rfl, h.le, fun k hk => ?_⟩
  obtain ⟨g, hg, ha, hcs⟩ := h.cells (by omega)
  have hk' : k < rows.length := by rw [hr.1]; exact hk
  obtain ⟨h1, h2⟩ := hr.2 k hk hk'
  refine ⟨g, 0, rows[k], ha, hx g hg, h1, fun j v hv => ?_, h2⟩
  have hj : j < sz := by rw [← h1]; exact (List.getElem?_eq_some_iff.1 hv).1
  have := hcs (k * sz + j) v (by rw [GK hr.flen hk' hj]; exact hv)
  rw [show 0 + k * sz + j = 0 + (k * sz + j) by omega]
  exact this
theorem RSl.rows {α : Type} {P : Program} {sz : Nat} {R : Rel α} {X : List Nat} {w w' : World} {v : Value} {ds : List α} (h : RSl sz R X w v ds) (he : Evo X w w') (h1 : ∀ X w vs d, R X w vs d → ∀ u, u ∈ vs → u.oneCell' = true) :
    ∃ rows : List (List Value), RowsOk sz R X w rows ds ∧ Src P w' sz v ds.length rows.flatten := by
  obtain ⟨rows, hl, hr, hs⟩ := h.src (P := P) he h1
  exact ⟨rows, ⟨hl, fun k hk hk' => hr k hk hk'⟩, hs⟩
section
variable {P : Program} {N : NN} {R : kK} {σ : Env} {w : World} {ops : Array Oper} {rest : List Oper} {dst : Option Nat} {d : Nat} {op : Op} {T : TypeId} {pos : String} {after : Array Edge} {g : Option (Nat × Bool)}
theorem gB {x i : Operand} {t : TypeId} {k : IntKind} {z : Int} {n sz b o len c : Nat} (hx : σ.ev x = some (.slice (some ⟨b, o, none⟩) len c)) (hi : σ.ev i = some (.int k z)) (hz : z = n) (he : tT P t = some sz) (hlt : n < len) :
    Ex P σ ⟨dst, .indexAddr t x i, T, pos, after, g⟩ w (.pointer (some ⟨b, o + n * sz, none⟩)) w := gF hx (by rw [hi, hz]) he hlt
theorem xL {t : TypeId} (a b : Bool) (w : World) (ht : P.underlying t = some .bool) : (Op.equal t (.bool a) (.bool b)).run P w = .ok (a == b) w := run_equalIn_bool w 9999 t a b ht
theorem ex_neqB {x y : Operand} {t t' : TypeId} {a b : Bool} (hx : σ.ev x = some (.bool a)) (hy : σ.ev y = some (.bool b)) (ht : P.underlying t = some .bool) : Ex P σ ⟨dst, .binOp .neq t x y t', T, pos, after, g⟩ w (.bool (!(a == b))) w := fun ρ h => by
  have := xL (P := P) a b w ht
  simp [execOp, h x _ hx, h y _ hy, eqGuard, Go.binOp, this]
theorem tF {j : Nat} {pol : Bool} {oj : Oper} {t : Nat} {a : Act} (hj : ops[j]? = some oj) (ht : oj.dst = some t) (hv : σ.get t = some undef) (ha : Fits N σ a) (hN : Nat.blt t N.1 = true) :
    Region.wanted (⟨dst, op, T, pos, after, some (j, pol)⟩ : Oper) (yielded ops a.tmps) = false := by
  have hs : t < a.tmps.size := by rw [ha.1]; exact of_decide_eq_true (by simpa using hN)
  have := ha.2.2 t _ hv
  simp only [Array.getD_eq_getD_getElem?, Array.getElem?_eq_getElem hs, Option.getD_some] at this
  simp [Region.wanted, yielded, hj, ht, Array.getElem?_eq_getElem hs, this, undef]
theorem wl_nou {j : Nat} {pol : Bool} {oj : Oper} {t : Nat} (hj : ops[j]? = some oj) (ht : oj.dst = some t) (hv : σ.get t = some undef) (hN : Nat.blt t N.1 = true) (hd : Nat.blt d N.1 = true)
    (h : WL P N ops R rest ((d, undef) :: σ) w) : WL P N ops R (⟨some d, op, T, pos, after, some (j, pol)⟩ :: rest) σ w := fun a ha => by
  unfold wpList
  rw [if_neg (by rw [tF hj ht hv ha hN]; simp)]
  exact h _ (ha.put (of_decide_eq_true (by simpa using hd)) _)
theorem gO {j : Nat} {pol : Bool} {oj : Oper} {t : Nat} (hj : ops[j]? = some oj) (ht : oj.dst = some t) (hv : σ.get t = some undef) (hN : Nat.blt t N.1 = true) (hd : Nat.blt d N.1 = true)
    (h : QL P N ops w R rest ((d, undef) :: σ)) : QL P N ops w R (⟨some d, op, T, pos, after, some (j, pol)⟩ :: rest) σ := fun a ha => by
  unfold wpQuiet
  rw [if_neg (by rw [tF hj ht hv ha hN]; simp)]
  exact h _ (ha.put (of_decide_eq_true (by simpa using hd)) _)
end
section
variable {P : Program} {σ : Env} {w : World} {dst : Option Nat} {T : TypeId} {pos : String} {after : Array Edge} {g : Option (Nat × Bool)}
theorem toList_inj {a b : ByteArray} (h : a.toList = b.toList) : a = b := by
  rw [ByteArray.toList_eq, ByteArray.toList_eq] at h
  obtain ⟨⟨x⟩⟩ := a
  obtain ⟨⟨y⟩⟩ := b
  simp at h
  subst h
  rfl
theorem sJ (a b : ByteArray) : (a.toList == b.toList) = decide (a = b) := by
  by_cases h : a = b
  · subst h; simp
  · rw [decide_eq_false h]
    exact beq_eq_false_iff_ne.2 (fun h2 => h (toList_inj h2))
theorem gQ {x y : Operand} {t t' : TypeId} {a b : ByteArray} (hx : σ.ev x = some (.string a)) (hy : σ.ev y = some (.string b)) : Ex P σ ⟨dst, .binOp .eql t x y t', T, pos, after, g⟩ w (.bool (decide (a = b))) w := fun ρ h => by
  simp [execOp, h x _ hx, h y _ hy, eqGuard, Go.binOp, Op.stringOp, sJ]
theorem tR {x y : Operand} {t t' : TypeId} {a b : ByteArray} (hx : σ.ev x = some (.string a)) (hy : σ.ev y = some (.string b)) : Ex P σ ⟨dst, .binOp .neq t x y t', T, pos, after, g⟩ w (.bool (decide (¬ a = b))) w := fun ρ h => by
  simp [execOp, h x _ hx, h y _ hy, eqGuard, Go.binOp, Op.stringOp, sJ]
end
def vS (md : Region.Mode) (ops : Array Oper) (j : Nat) : Bool :=
  (List.range ops.size).all fun k => k == j || match ops[j]? with
    | some oj => oj.after.any fun e => Region.binds md e && e.on == k
    | none => false
def JV (P : Program) (md : Region.Mode) (ops : Array Oper) (Q : Exit → Act → World → Prop) (S : World → Prop) : Nat → Array Bool → Act → World → Prop
  | 0, listed, a, w => Region.ready md ops listed = [] ∧ Q .normal a w
  | fuel + 1, listed, a, w => (Region.ready md ops listed = [] → Q .normal a w) ∧
    ∀ i ∈ Region.ready md ops listed, wpOp P ops Q i (fun a' w' => (S w' ∨ vS md ops i = true) ∧ JV P md ops Q S fuel (listed.setIfInBounds i true) a' w') a w
section
variable {P : Program} {ops : Array Oper} {Q : Exit → Act → World → Prop} {md : Region.Mode} {S : World → Prop}
theorem HE : ∀ (fuel : Nat) (listed : Array Bool) (a : Act) (w : World), JV P md ops Q S fuel listed a w → wpAny P md ops Q fuel listed a w
  | 0, _, _, _, h => h
  | fuel + 1, _, _, _, h => ⟨h.1, fun i hi => wpOp_mono (fun a' w' h' => HE fuel _ a' w' h'.2) (h.2 i hi)⟩
theorem tB {i : Nat} {oi : Oper} {v : Value} (hi : ops[i]? = some oi) (hsel : ∀ (j : Nat) (o : Oper) cs b, ops[j]? = some o → o.op ≠ .select cs b)
    (hQ : ∀ c a w, Q (.panic c) (a.put oi.dst v) w → Q (.panic c) a w) :
    ∀ (fuel : Nat) (listed : Array Bool) (a : Act) (w : World),
      (∀ j oj, ops[j]? = some oj → j ≠ i → listed.getD j true = false → (∀ e ∈ oj.after, Region.binds md e = true → e.on ≠ i) → oi.apart ops oj = true) →
      i ∈ Region.ready md ops listed → YieldsIf P ops S oi v a → S w →
      JV P md ops Q S fuel (listed.setIfInBounds i true) (a.put oi.dst v) w → JV P md ops Q S (fuel + 1) listed a w := by
  intro fuel
  induction fuel with
  | zero =>
    intro listed a w _ hr hy hS H
    refine ⟨fun h => (by rw [h] at hr; cases hr), fun j hj => ?_⟩
    by_cases hji : j = i
    · subst hji; exact hy.wpOp hi hS ⟨.inl hS, H⟩
    · have := ready_mono hj hji
      rw [H.1] at this
      cases this
  | succ fuel ih =>
    intro listed a w hfree hr hy hS H
    refine ⟨fun h => (by rw [h] at hr; cases hr), fun j hj => ?_⟩
    by_cases hji : j = i
    · subst hji; exact hy.wpOp hi hS ⟨.inl hS, H⟩
    · have h1 := H.2 j (ready_mono hj hji)
      obtain ⟨hjun, oj, hoj, hall⟩ := mem_ready.1 hj
      have hnot : ∀ e ∈ oj.after, Region.binds md e = true → e.on ≠ i := fun e he hb heq => by
        have h1 := hall e he hb
        have h0 := (mem_ready.1 hr).1
        rw [heq] at h1
        rcases Nat.lt_or_ge i listed.size with h' | h'
        · simp [h'] at h0 h1; rw [h0] at h1; cases h1
        · simp [Array.getElem?_eq_none h'] at h1
      have hlast : vS md ops j ≠ true := fun hl => by
        have hlt : i < ops.size := (Array.getElem?_eq_some_iff.1 hi).1
        have h2 := List.all_eq_true.1 hl i (List.mem_range.2 hlt)
        rw [hoj] at h2
        simp only [Bool.or_eq_true, beq_iff_eq] at h2
        rcases h2 with h2 | h2
        · exact hji h2.symm
        · obtain ⟨e, he, hb⟩ := Array.any_eq_true'.1 h2
          simp only [Bool.and_eq_true, beq_iff_eq] at hb
          exact hnot e he hb.1 hb.2
      have h2 := wpOp_putIf hoj (hfree j oj hoj hji hjun hnot) (fun cs b => hsel i oi cs b hi) (fun cs b => hsel j oj cs b hoj) hQ hy h1
      have hfree' : ∀ k ok, ops[k]? = some ok → k ≠ i → (listed.setIfInBounds j true).getD k true = false →
          (∀ e ∈ ok.after, Region.binds md e = true → e.on ≠ i) → oi.apart ops ok = true := fun k ok hk hki hun hno => by
        refine hfree k ok hk hki ?_ hno
        by_cases hjk : j = k
        · subst hjk; exact hjun
        · rw [getD_set_ne true hjk] at hun; exact hun
      refine wpOp_mono (fun a' w' h3 => ?_) h2
      have hS' : S w' := h3.2.1.resolve_right hlast
      refine ⟨.inl hS', ih (listed.setIfInBounds j true) a' w' hfree' (ready_mono hr (Ne.symm hji)) h3.1 hS' ?_⟩
      rw [Array.setIfInBounds_comm _ _ hji]
      exact h3.2.2
end
def agn (R : kK) : kK
  | .panic c, N, _, w => R (.panic c) N [] w
  | .normal, N, σ, w => R .normal N σ w
  | .exit i, N, σ, w => R (.exit i) N σ w
  | .goto l, N, σ, w => R (.goto l) N σ w
  | .ret, N, σ, w => R .ret N σ w
  | .outgrown, N, σ, w => R .outgrown N σ w
theorem NW {N : NN} {σ : Env} {a : Act} (h : Fits N σ a) : Fits N [] a := ⟨h.1, h.2.1, fun t v h => by cases h⟩
theorem toQ_agn {R : kK} : ∀ e a w, toQ (agn R) e a w → toQ R e a w := fun e a w h => by
  cases e with
  | panic c => obtain ⟨N, σ, hf, h⟩ := h; exact ⟨N, [], NW hf, h⟩
  | normal => exact h
  | exit i => exact h
  | goto l => exact h
  | ret => exact h
  | outgrown => exact h
def AE (P : Program) (N : NN) (ops : Array Oper) (R : kK) (S : World → Prop) (fuel : Nat) (listed : Array Bool) (σ : Env) (w : World) : Prop :=
  ∀ a, Fits N σ a → JV P .any ops (toQ (agn R)) S fuel listed a w
def AStep (P : Program) (N : NN) (ops : Array Oper) (R : kK) (S : World → Prop) (fuel : Nat) (listed : Array Bool) (σ : Env) (w : World) (i : Nat) : Prop :=
  ∀ a, Fits N σ a → wpOp P ops (toQ (agn R)) i (fun a' w' => (S w' ∨ vS .any ops i = true) ∧ JV P .any ops (toQ (agn R)) S fuel (listed.setIfInBounds i true) a' w') a w
def AAll (p : Nat → Prop) : List Nat → Prop
  | [] => True
  | i :: r => p i ∧ AAll p r
section
variable {P : Program} {N : NN} {R : kK} {σ : Env} {w : World} {ops : Array Oper} {S : World → Prop} {fuel : Nat} {listed : Array Bool} {d : Nat} {op : Op} {T : TypeId} {pos : String} {after : Array Edge}
theorem iK {id : Nat} {l : List Oper} (S : World → World → Prop) (hm : P.follows .mixedOrders = true)
    (h : ∀ w1, Evo [] w w1 → AE P N l.toArray R (S w1) l.toArray.size (Array.replicate l.toArray.size false) σ w1) : CW P N (.region id l.toArray true) R σ w :=
  fun a ha => wp_mono (wp_region_any hm (HE _ _ _ _ (h _ (TJ w) a ha))) toQ_agn
theorem BH {R : kK} {dst : Option Nat} {v : Value} : ∀ c a w, toQ (agn R) (.panic c) (a.put dst v) w → toQ (agn R) (.panic c) a w := by
  rintro c a w ⟨N, σ, hf, h⟩
  refine ⟨N, [], ⟨?_, ?_, fun t v h => by cases h⟩, h⟩
  · rw [← hf.1]; cases dst <;> simp [Act.put]
  · rw [← hf.2.1]; cases dst <;> rfl
theorem xG (i : Nat) {r : Value} (hi : ops[i]? = some ⟨some d, op, T, pos, after, none⟩) (hs : Region.noSelect ops = true) (hf : Region.free .any ops listed i = true) (hr : (Region.ready .any ops listed).contains i = true)
    (hd : Nat.blt d N.1 = true) (hx : ∀ w', S w' → Ex P σ ⟨some d, op, T, pos, after, none⟩ w' r w') (hS : S w) (h : AE P N ops R S fuel (listed.setIfInBounds i true) ((d, r) :: σ) w) : AE P N ops R S (fuel + 1) listed σ w := fun a ha =>
  tB hi (Region.noSelect_spec hs) (fun c a w => BH c a w) fuel listed a w (Region.free_spec hi hf) (by simpa using hr)
    (.inl ⟨by simp [Region.wanted], fun w' hw' => hx w' hw' a.eval ha.agrees⟩) hS (h _ (ha.put (of_decide_eq_true (by simpa using hd)) r))
theorem aet (i : Nat) {r : Value} (hi : ops[i]? = some ⟨some d, op, T, pos, after, none⟩) (hx : ∀ w', S w' → Ex P σ ⟨some d, op, T, pos, after, none⟩ w' r w') (hS : S w) (h : AE P N ops R S fuel (listed.setIfInBounds i true) ((d, r) :: σ) w) (hs : Region.noSelect ops = true := by kernel_rfl) (hf : Region.free .any ops listed i = true := by kernel_rfl) (hr : (Region.ready .any ops listed).contains i = true := by kernel_rfl) (hd : Nat.blt d N.1 = true := by rfl) : AE P N ops R S (fuel + 1) listed σ w := xG i hi hs hf hr hd hx hS h
theorem mC (i : Nat) {j : Nat} {pol : Bool} {oj : Oper} {t : Nat} {r : Value} (hj : ops[j]? = some oj) (ht : oj.dst = some t) (hv : σ.get t = some (.bool pol)) (hN : Nat.blt t N.1 = true)
    (hi : ops[i]? = some ⟨some d, op, T, pos, after, some (j, pol)⟩) (hs : Region.noSelect ops = true) (hf : Region.free .any ops listed i = true) (hr : (Region.ready .any ops listed).contains i = true)
    (hd : Nat.blt d N.1 = true) (hx : ∀ w', S w' → Ex P σ ⟨some d, op, T, pos, after, some (j, pol)⟩ w' r w') (hS : S w) (h : AE P N ops R S fuel (listed.setIfInBounds i true) ((d, r) :: σ) w) : AE P N ops R S (fuel + 1) listed σ w := fun a ha => by
  have hg : Region.wanted (⟨some d, op, T, pos, after, some (j, pol)⟩ : Oper) (yielded ops a.tmps) = true := by
    have hs : t < a.tmps.size := by rw [ha.1]; exact of_decide_eq_true (by simpa using hN)
    have := ha.2.2 t _ hv
    simp only [Array.getD_eq_getD_getElem?, Array.getElem?_eq_getElem hs, Option.getD_some] at this
    simp [Region.wanted, yielded, hj, ht, Array.getElem?_eq_getElem hs, this]
  exact tB hi (Region.noSelect_spec hs) (fun c a w => BH c a w) fuel listed a w (Region.free_spec hi hf) (by simpa using hr)
    (.inl ⟨hg, fun w' hw' => hx w' hw' a.eval ha.agrees⟩) hS (h _ (ha.put (of_decide_eq_true (by simpa using hd)) r))
theorem UH (i : Nat) {j : Nat} {pol b : Bool} {oj : Oper} {t : Nat} (hj : ops[j]? = some oj) (ht : oj.dst = some t) (hv : σ.get t = some (.bool b)) (hb : b = !pol) (hN : Nat.blt t N.1 = true)
    (hi : ops[i]? = some ⟨some d, op, T, pos, after, some (j, pol)⟩) (hs : Region.noSelect ops = true) (hf : Region.free .any ops listed i = true) (hr : (Region.ready .any ops listed).contains i = true)
    (hd : Nat.blt d N.1 = true) (hS : S w) (h : AE P N ops R S fuel (listed.setIfInBounds i true) ((d, undef) :: σ) w) : AE P N ops R S (fuel + 1) listed σ w := fun a ha => by
  have hg : Region.wanted (⟨some d, op, T, pos, after, some (j, pol)⟩ : Oper) (yielded ops a.tmps) = false := by
    have hs : t < a.tmps.size := by rw [ha.1]; exact of_decide_eq_true (by simpa using hN)
    have := ha.2.2 t _ hv
    simp only [Array.getD_eq_getD_getElem?, Array.getElem?_eq_getElem hs, Option.getD_some] at this
    subst hb
    cases pol <;> simp [Region.wanted, yielded, hj, ht, Array.getElem?_eq_getElem hs, this]
  exact tB hi (Region.noSelect_spec hs) (fun c a w => BH c a w) fuel listed a w (Region.free_spec hi hf) (by simpa using hr)
    (.inr ⟨hg, rfl⟩) hS (h _ (ha.put (of_decide_eq_true (by simpa using hd)) _))
theorem DN (i : Nat) {j : Nat} {pol b : Bool} {oj : Oper} {t : Nat} (hi : ops[i]? = some ⟨some d, op, T, pos, after, some (j, pol)⟩) (hS : S w) (h : AE P N ops R S fuel (listed.setIfInBounds i true) ((d, undef) :: σ) w) (hj : ops[j]? = some oj := by rfl) (ht : oj.dst = some t := by rfl) (hv : σ.get t = some (.bool b) := by rfl) (hb : b = !pol := by rfl) (hN : Nat.blt t N.1 = true := by rfl) (hs : Region.noSelect ops = true := by kernel_rfl) (hf : Region.free .any ops listed i = true := by kernel_rfl) (hr : (Region.ready .any ops listed).contains i = true := by kernel_rfl) (hd : Nat.blt d N.1 = true := by rfl) : AE P N ops R S (fuel + 1) listed σ w := UH i hj ht hv hb hN hi hs hf hr hd hS h
theorem cP (rs : List Nat) (hr : Region.ready .any ops listed = rs) (hne : rs.isEmpty = false) (h : AAll (AStep P N ops R S fuel listed σ w) rs) : AE P N ops R S (fuel + 1) listed σ w := fun a ha => by
  refine ⟨fun h0 => ?_, ?_⟩
  · rw [hr] at h0; subst h0; cases hne
  · rw [hr]
    clear hr hne
    induction rs with
    | nil => intro i hi; cases hi
    | cons j rs ih =>
      intro i hi
      rcases List.mem_cons.1 hi with rfl | hi
      · exact h.1 a ha
      · exact ih h.2 i hi
theorem cU {i : Nat} {o : Oper} (hi : ops[i]? = some o) (h : WL P N ops (sK (fun N' σ' w' => N' = N ∧ (S w' ∨ vS .any ops i = true) ∧ AE P N ops R S fuel (listed.setIfInBounds i true) σ' w') (agn R)) [o] σ w) : AStep P N ops R S fuel listed σ w i := fun a ha => by
  have h1 := h a ha
  unfold wpList at h1
  unfold wpOp
  simp only [hi]
  have conv : ∀ a' w', toQ (sK (fun N' σ' w' => N' = N ∧ (S w' ∨ vS .any ops i = true) ∧ AE P N ops R S fuel (listed.setIfInBounds i true) σ' w') (agn R)) .normal a' w' →
      (S w' ∨ vS .any ops i = true) ∧ JV P .any ops (toQ (agn R)) S fuel (listed.setIfInBounds i true) a' w' := by
    rintro a' w' ⟨N', σ', hf, rfl, hs, hae⟩
    exact ⟨hs, hae a' hf⟩
  split
  · rename_i hw
    rw [if_pos hw] at h1
    rcases h1 with h1 | ⟨h1, a0, w0, h2⟩
    · refine .inl ?_
      unfold Oper.wp at h1 ⊢
      generalize (execOp a.eval o).run P w = r at *
      cases r with
      | ok n w' =>
        cases n <;> simp only [Oper.upon] at h1 ⊢
        case value u => exact conv _ _ (by simpa [wpList] using h1)
        case skip => exact conv _ _ (by simpa [wpList] using h1)
        case defer d => exact conv _ _ (by simpa [wpList] using h1)
        case enter f args =>
          refine h1.mono fun e w'' he => ?_
          cases e with
          | returned u => exact conv _ _ (by simpa [wpList] using he)
          | panicked c => exact he
          | outgrown => obtain ⟨a0, w0, h2⟩ := he; exact ⟨a0, w0, h2⟩
        case row row args => exact h1.mono fun u w'' he => conv _ _ (by simpa [wpList] using he)
      | halt x w' =>
        cases x <;> simp only [Oper.upon] at h1 ⊢
        case panic u => exact h1
    · exact .inr ⟨h1, a0, w0, h2⟩
  · rename_i hw
    rw [if_neg hw] at h1
    exact conv _ _ (by simpa [wpList] using h1)
theorem UI {t : Nat} {p : Prop} [Decidable p] (hv : σ.get t = some (.bool (decide p))) (ht : p → AE P N ops R S fuel listed ((t, .bool true) :: σ) w) (hf : ¬ p → AE P N ops R S fuel listed ((t, .bool false) :: σ) w) : AE P N ops R S fuel listed σ w := by
  intro a ha
  by_cases h : p
  · exact ht h a (ha.split hv (decide_eq_true h))
  · exact hf h a (ha.split hv (decide_eq_false h))
theorem cG {i : Nat} {w : World} (hS : S w ∨ vS .any ops i = true) (h : AE P N ops R S fuel (listed.setIfInBounds i true) σ w) :
    sK (fun N' σ' w' => N' = N ∧ (S w' ∨ vS .any ops i = true) ∧ AE P N ops R S fuel (listed.setIfInBounds i true) σ' w') R .normal N σ w := ⟨rfl, hS, h⟩
theorem fA (hr : Region.ready .any ops listed = []) (h : R .normal N σ w) : AE P N ops R S fuel listed σ w := fun a ha => by
  cases fuel with
  | zero => exact ⟨hr, N, σ, ha, h⟩
  | succ n => exact ⟨fun _ => ⟨N, σ, ha, h⟩, by rw [hr]; intro i hi; cases hi⟩
theorem JL {c : Code} {α : Type} (M : α → Env) (C : Env) (Φ : α → World → Prop) (_hC : Sub C σ) (h1 : CW P N c (sK (fun N' σ' w' => N' = N ∧ ∃ x, Sub (M x) σ' ∧ Sub C σ' ∧ Φ x w') R) σ w) (h2 : ∀ x w', Φ x w' → R .normal N (M x ++ C) w') : CW P N c R σ w := fun a ha => by
  refine wp_mono (h1 a ha) ?_
  intro e a' w' hq
  cases e with
  | normal => obtain ⟨N', σ', hf, rfl, x, hM, hC, hΦ⟩ := hq; exact ⟨N', M x ++ C, Fits.app hM hC hf hf, h2 x w' hΦ⟩
  | exit i => exact hq
  | goto l => exact hq
  | ret => exact hq
  | panic c => exact hq
  | outgrown => exact hq
structure Build (P : Program) (t : TypeId) (places : Array (Nat × Nat)) (zero : Array Value) : Prop where
  ex : ∃ fs z, P.underlying t = some (.struct fs) ∧ (P.info? t).bind (·.zero) = some z ∧ z.cells = zero ∧ ∀ w, (fs.mapM (fun (f : Field) => do pure (f.offset, ← sizeOf f.type)) : Sem (Array (Nat × Nat))).run P w = .ok places w
def NM : List (Nat × Nat) → Nat → Option (Nat × Nat)
  | [], _ => none
  | a :: _, 0 => some a
  | _ :: l, n + 1 => NM l n
theorem KZ : ∀ (l : List (Nat × Nat)) (n : Nat), NM l n = l[n]?
  | [], _ => by simp [NM]
  | _ :: _, 0 => by simp [NM]
  | _ :: l, n + 1 => by simp [NM, KZ l n]
def qQ : List Value → Nat → List Value → List Value
  | l, _, [] => l
  | l, o, v :: r => qQ (l.set o v) (o + 1) r
def GM (places : List (Nat × Nat)) : List Value → List (Nat × Value) → Option (List Value)
  | cells, [] => some cells
  | cells, (i, v) :: rest =>
    match NM places i with
    | none => none
    | some (off, size) => cond (Nat.beq v.cells.toList.length size) (cond (Nat.ble (off + size) cells.length) (GM places (qQ cells off v.cells.toList) rest) none) none
theorem vO (off : Nat) : ∀ (r l : List Value) (j : Nat), (r.zipIdx j).foldl (fun (cs : Array Value) x => cs.setIfInBounds (off + x.2) x.1) l.toArray = (qQ l (off + j) r).toArray
  | [], _, _ => by simp [qQ]
  | v :: r, l, j => by
    have := vO off r (l.set (off + j) v) (j + 1)
    simp only [List.zipIdx_cons, List.foldl_cons, List.setIfInBounds_toArray, qQ]
    rw [this, Nat.add_assoc]
theorem GL {places : Array (Nat × Nat)} : ∀ (vs : List (Nat × Value)) (cells r : List Value), GM places.toList cells vs = some r → Instr.fill (fun i => places[i]?) cells.toArray vs = some r.toArray
  | [], cells, r, h => by simp only [GM, Option.some.injEq] at h; subst h; simp [Instr.fill]
  | (i, v) :: vs, cells, r, h => by
    simp only [GM, KZ, Array.getElem?_toList] at h
    simp only [Instr.fill]
    cases hp : places[i]? with
    | none => rw [hp] at h; cases h
    | some os =>
      obtain ⟨off, size⟩ := os
      rw [hp] at h
      simp only at h
      cases hb : Nat.beq v.cells.toList.length size with
      | false => rw [hb] at h; cases h
      | true =>
        rw [hb] at h
        cases hl : Nat.ble (off + size) cells.length with
        | false => rw [hl] at h; cases h
        | true =>
          rw [hl] at h
          have h1 : v.cells.size = size := by simpa using Nat.eq_of_beq_eq_true hb
          have h2 : off + size ≤ cells.length := Nat.le_of_ble_eq_true hl
          simp only [cond_true] at h
          have := vO off v.cells.toList cells 0
          simp only
          rw [if_neg (by simp [h1, h2]), ← Array.foldl_toList, Array.toList_zipIdx, this]
          exact GL vs _ r h
theorem eN {t : TypeId} {parts : Array (Nat × Operand)} {vs : List (Nat × Value)} {places : Array (Nat × Nat)} {zero cells : List Value} {dst : Option Nat} {g : Option (Nat × Bool)} (hB : Build P t places zero.toArray)
    (hp : parts.toList.map (fun p => (p.1, σ.ev p.2)) = vs.map (fun q => (q.1, some q.2))) (hf' : GM places.toList zero vs = some cells) : Ex P σ ⟨dst, .build t parts, T, pos, after, g⟩ w (.agg cells.toArray) w := fun ρ ha => by
  have hf := GL vs zero cells hf'
  obtain ⟨fs, z, hu, hz, hzc, hr⟩ := hB.ex
  obtain ⟨i, hi, hz'⟩ := Option.bind_eq_some_iff.1 hz
  have hparts : (parts.map fun p => (p.1, ρ p.2)).toList = vs := by
    rw [Array.toList_map]
    clear hf hf'
    revert hp
    generalize parts.toList = l
    intro hp
    induction l generalizing vs with
    | nil => cases vs with | nil => rfl | cons _ _ => simp at hp
    | cons p l ih =>
      cases vs with
      | nil => simp at hp
      | cons x q =>
        simp only [List.map_cons, List.cons.injEq, Prod.mk.injEq] at hp ⊢
        exact ⟨Prod.ext hp.1.1 (ha _ _ hp.1.2), ih hp.2⟩
  rw [Array.toList_map] at hparts
  have hr' := hr w
  simp only [execOp, Instr.build, zeroValue, typeInfo, Sem.run_bind, run_program, Result.andThen_ok, hi, hz', Sem.run_pure, run_underlying hu, hr', hzc, Array.toList_map, hparts, hf]
theorem sR {rest : List Oper} {t U : TypeId} {x y : Operand} {v : Value} {b o : Nat} {cs : Array Value} (hx : σ.ev x = some (.pointer (some ⟨b, o, none⟩))) (hy : σ.ev y = some v) (h1 : v.oneCell' = true) (hs : iT P t = some 1)
    (hb : w.heap[b]? = some (.cells cs U (0, 0))) (hle : o < cs.size)
    (h : ∀ w', w'.heap[b]? = some (.cells (cs.setIfInBounds o v) U (0, 0)) → Evo [b] w w' → WL P N ops R rest σ w') :
    WL P N ops R (⟨none, .store t x y, T, pos, after, none⟩ :: rest) σ w := bG hx hy h1 hs hb (by simpa using hle) h
theorem GN {f : Fn} {xs : Array Operand} {vs : List Value} {dst : Option Nat} {g : Option (Nat × Bool)} (hxs : xs.toList.map σ.ev = vs.map some) :
    Ex P σ ⟨dst, .makeFunc f #[] xs, T, pos, after, g⟩ w (.func f #[] vs.toArray) w := fun ρ ha => by
  have hargs : xs.map ρ = vs.toArray := by
    apply Array.ext'
    rw [Array.toList_map]
    revert hxs
    generalize xs.toList = l
    intro hxs
    induction l generalizing vs with
    | nil => cases vs with | nil => rfl | cons _ _ => simp at hxs
    | cons x l ih =>
      cases vs with
      | nil => simp at hxs
      | cons v vs =>
        simp only [List.map_cons, List.cons.injEq] at hxs
        simp only [List.map_cons, ha x v hxs.1]
        exact congrArg _ (ih hxs.2)
  simp [execOp, Instr.makeFunc, hargs]
theorem cN {x : Operand} {vs : Array Value} {i : Nat} {v : Value} {dst : Option Nat} {g : Option (Nat × Bool)} (hx : σ.ev x = some (.tuple vs)) (hv : vs[i]? = some v) : Ex P σ ⟨dst, .extract x i, T, pos, after, g⟩ w v w := fun ρ ha => by
  simp [execOp, ha x _ hx, Instr.extract, hv]
theorem aK {rest : List Oper} {f : FuncId} {xs : Array Operand} {ats : Array TypeId} {vs : List Value} {Φ : Value → World → Prop} (hgo : eY P f) (hxs : xs.toList.map σ.ev = vs.map some)
    (hc : Calls P f vs.toArray w (Ret Φ)) (hd : Nat.blt d N.1 = true) (h : ∀ v w', Φ v w' → WL P N ops R rest ((d, v) :: σ) w') :
    WL P N ops R (⟨some d, .call ⟨.value (.func f), xs, ats⟩, T, pos, after, none⟩ :: rest) σ w := wl_call hgo hxs hc (fun k hk => by cases hk; exact hd) h
end
section
variable {P : Program} {σ : Env} {w : World}
def FG (tmps : Array Value) : ResultVar → Sem Value
  | .tmp t => pure (tmps.getD t undef)
  | .cell a t => do loadVar t (← asAddr (tmps.getD a undef))
def ResOk (P : Program) (σ : Env) (w : World) (r : ResultVar) (v : Value) : Prop := ∀ a, Fits (a.tmps.size, a.defers) σ a → (FG a.tmps r).run P w = .ok v w
theorem ResOk.tmp {t : Tmp} {v : Value} (h : σ.get t = some v) : ResOk P σ w (.tmp t) v := fun a ha => by simp only [FG, Sem.run_pure, ha.2.2 t v h]
theorem ResOk.cell1 {t : Tmp} {ty U : TypeId} {b : Nat} {cs : Array Value} {fz : Nat × Nat} {v : Value} (h : σ.get t = some (.pointer (some ⟨b, 0, none⟩))) (ha : oG P ty = some false) (hb : w.heap[b]? = some (.cells cs U fz)) (hv : nth cs.toList 0 = some v) : ResOk P σ w (.cell t ty) v := fun a hf => by
  simp [FG, hf.2.2 t _ h, asAddr, loadVar, nR ha, aJ hb hv]
theorem ResOk.cellA {t : Tmp} {ty U : TypeId} {b n : Nat} {cs : Array Value} {fz : Nat × Nat} (h : σ.get t = some (.pointer (some ⟨b, 0, none⟩))) (ha : oG P ty = some true) (hs : iT P ty = some n) (hb : w.heap[b]? = some (.cells cs U fz)) (hl : cs.size = n) : ResOk P σ w (.cell t ty) (.agg cs) := fun a hf => by
  obtain ⟨inf, hin, hsz⟩ := Option.map_eq_some_iff.1 hs
  have hr := lU (P := P) (w := w) b 0 n 0 #[] cs.toList (by simpa using hl) (fun j v hv => iJ hb (by simpa using hv))
  simp [FG, hf.2.2 t _ h, asAddr, loadVar, nR ha, sizeOf, typeInfo, hin, hsz, loadCells, hr]
theorem pP (fn : Func) (tmps : Array Value) : results fn tmps = ((fn.results.mapM (FG tmps)) >>= fun vs => pure (if h : vs.size = 1 then vs[0] else Value.tuple vs)) := by
  unfold results
  congr 1
theorem cX {n : Nat} {fn : Func} {r : ResultVar} {v : Value} {Φ : Value → World → Prop} (hr : fn.results = #[r]) (h1 : ResOk P σ w r v) (h : Φ v w) : oE P fn (Ret Φ) .ret (n, []) σ w := ⟨rfl, fun a ha => by
  refine ⟨v, ?_, _, rfl, h⟩
  rw [pP, hr]
  simp [h1 a ha]⟩
theorem yW {n : Nat} {fn : Func} {r r' : ResultVar} {v v' : Value} {Φ : Value → World → Prop} (hr : fn.results = #[r, r']) (h1 : ResOk P σ w r v) (h2 : ResOk P σ w r' v') (h : Φ (.tuple #[v, v']) w) : oE P fn (Ret Φ) .ret (n, []) σ w := ⟨rfl, fun a ha => by
  refine ⟨.tuple #[v, v'], ?_, _, rfl, h⟩
  rw [pP, hr]
  simp [h1 a ha, h2 a ha]⟩
theorem JP {n : Nat} {fn : Func} {r r' r'' : ResultVar} {v v' v'' : Value} {Φ : Value → World → Prop} (hr : fn.results = #[r, r', r'']) (h1 : ResOk P σ w r v) (h2 : ResOk P σ w r' v') (h3 : ResOk P σ w r'' v'') (h : Φ (.tuple #[v, v', v'']) w) : oE P fn (Ret Φ) .ret (n, []) σ w := ⟨rfl, fun a ha => by
  refine ⟨.tuple #[v, v', v''], ?_, _, rfl, h⟩
  rw [pP, hr]
  simp [h1 a ha, h2 a ha, h3 a ha]⟩
theorem eX {n : Nat} {fn : Func} {t u x : Tmp} {v v' v'' : Value} {Φ : Value → World → Prop} (hr : fn.results = #[.tmp t, .tmp u, .tmp x]) (hv : σ.get t = some v) (hv' : σ.get u = some v') (hv'' : σ.get x = some v'') (h : Φ (.tuple #[v, v', v'']) w) : oE P fn (Ret Φ) .ret (n, []) σ w :=
  JP hr (.tmp hv) (.tmp hv') (.tmp hv'') h
end
section
variable {P : Program} {N : NN} {R : kK} {σ : Env} {w : World} {ops : Array Oper} {rest : List Oper} {d : Nat} {op : Op} {T : TypeId} {pos : String} {after : Array Edge}
theorem aH {j : Nat} {pol b : Bool} {oj : Oper} {t : Nat} (h : WL P N ops R rest ((d, undef) :: σ) w) (hj : ops[j]? = some oj := by rfl) (ht : oj.dst = some t := by rfl) (hv : σ.get t = some (.bool b) := by rfl) (hb : b = !pol := by rfl) (hN : Nat.blt t N.1 = true := by rfl) (hd : Nat.blt d N.1 = true := by rfl) :
    WL P N ops R (⟨some d, op, T, pos, after, some (j, pol)⟩ :: rest) σ w := wl_no hj ht hv hb hN hd h
theorem fO {j : Nat} {pol : Bool} {oj : Oper} {t : Nat} (h : WL P N ops R rest ((d, undef) :: σ) w) (hj : ops[j]? = some oj := by rfl) (ht : oj.dst = some t := by rfl) (hv : σ.get t = some undef := by rfl) (hN : Nat.blt t N.1 = true := by rfl) (hd : Nat.blt d N.1 = true := by rfl) :
    WL P N ops R (⟨some d, op, T, pos, after, some (j, pol)⟩ :: rest) σ w := wl_nou hj ht hv hN hd h
theorem aQ {dst : Option Nat} {j : Nat} {pol : Bool} {oj : Oper} {t : Nat} (h : WL P N ops R (⟨dst, op, T, pos, after, none⟩ :: rest) σ w) (hj : ops[j]? = some oj := by rfl) (ht : oj.dst = some t := by rfl) (hv : σ.get t = some (.bool pol) := by rfl) (hN : Nat.blt t N.1 = true := by rfl) :
    WL P N ops R (⟨dst, op, T, pos, after, some (j, pol)⟩ :: rest) σ w := wl_go hj ht hv hN h
theorem aG {x : Operand} {v : Value} (h : WL P N ops R rest ((d, v) :: σ) w) (hx : σ.ev x = some v := by rfl) (hd : Nat.blt d N.1 = true := by rfl) : WL P N ops R (⟨some d, .move x, T, pos, after, none⟩ :: rest) σ w := jF hd (bO hx) h
theorem aM {x : Operand} {v : Value} (h : WL P N ops R rest ((d, v) :: σ) w) (hx : σ.ev x = some v := by rfl) (hd : Nat.blt d N.1 = true := by rfl) : WL P N ops R (⟨some d, .assign x, T, pos, after, none⟩ :: rest) σ w := jF hd (eT hx) h
theorem aR {c x y : Operand} {v : Value} (h : WL P N ops R rest ((d, v) :: σ) w) (hc : σ.ev c = some (.bool false) := by rfl) (hx : σ.ev y = some v := by rfl) (hd : Nat.blt d N.1 = true := by rfl) : WL P N ops R (⟨some d, .pick c x y, T, pos, after, none⟩ :: rest) σ w := jF hd (iE hc hx) h
theorem bH {c x y : Operand} {v : Value} (h : WL P N ops R rest ((d, v) :: σ) w) (hc : σ.ev c = some (.bool true) := by rfl) (hx : σ.ev x = some v := by rfl) (hd : Nat.blt d N.1 = true := by rfl) : WL P N ops R (⟨some d, .pick c x y, T, pos, after, none⟩ :: rest) σ w := jF hd (hD hc hx) h
end
def Opens {α : Type} (P : Program) (t : TypeId) (R : Rel α) : Prop :=
  ∀ (H : Type) (enc : TypeId × Value → H) (w : World) (fuel : Nat) (cs : List Value) (x : DataW H × List MemPlace), DataW.trod enc P w 0 (fun _ => true) true fuel t cs = some x →
    (∀ n, n ∈ x.1.weights P t → n ≤ reachBytes) → ∃ d, R [] w cs d
end Go.W
namespace Go.W
open Go.ChangeShapes Go.RowKit
def OpensF {α : Type} (F : Nat) (P : Program) (t : TypeId) (R : Rel α) : Prop :=
  ∀ (H : Type) (enc : TypeId × Value → H) (w : World) (fuel : Nat) (cs : List Value) (x : DataW H × List MemPlace), fuel ≤ F → DataW.trod enc P w 0 (fun _ => true) true fuel t cs = some x →
    (∀ n, n ∈ x.1.weights P t → n ≤ reachBytes) → ∃ d, R [] w cs d
theorem Opens.fuel {α : Type} {P : Program} {t : TypeId} {R : Rel α} (h : Opens P t R) (F : Nat) : OpensF F P t R := fun H enc w fuel cs x _ h1 h2 => h H enc w fuel cs x h1 h2
theorem OpensF.all {α : Type} {P : Program} {t : TypeId} {R : Rel α} (h : ∀ F, OpensF F P t R) : Opens P t R := fun H enc w fuel cs x h1 h2 => h fuel H enc w fuel cs x (Nat.le_refl _) h1 h2
end Go.W
namespace Go.Proofs.YtljadkcojnlioaaGreatDoor
open Go.Shelf
def pL : Go.Shelf.Ren := ⟨fun | 169 => 43 | n => n, fun | 70 => 77 | 9 => 9 | 0 => 0 | 72 => 80 | 37 => 78 | 127 => 121 | 3 => 3 | 5 => 5 | n => n, fun | n => n⟩
theorem DU : Go.Proofs.Lays.n169 Tryz.prog pL := {
  mixed := by kernel_rfl
  f169 := Tryz.func43.trans (congrArg some (by kernel_rfl))
  t0 := Tryz.underlying0
  a0 := Tryz.isAgg0
  z0 := Tryz.sizeOf0
  v0 := Tryz.zeroValue0
  t3 := Tryz.underlying3
  a3 := Tryz.isAgg3
  z3 := Tryz.sizeOf3
  v3 := Tryz.zeroValue3
  t9 := Tryz.underlying9
  a9 := Tryz.isAgg9
  z9 := Tryz.sizeOf9
  v9 := Tryz.zeroValue9
  t37 := Tryz.underlying78
  a37 := Tryz.isAgg78
  z37 := Tryz.sizeOf78
  v37 := Tryz.zeroValue78
  t70 := Tryz.underlying77
  a70 := Tryz.isAgg77
  z70 := Tryz.sizeOf77
  v70 := Tryz.zeroValue77
  t72 := Tryz.underlying80
  a72 := Tryz.isAgg80
  z72 := Tryz.sizeOf80
  v72 := Tryz.zeroValue80
  t127 := Tryz.underlying121
  a127 := Tryz.isAgg121
  z127 := Tryz.sizeOf121
  v127 := Tryz.zeroValue121 }
theorem qM : Builder.Extra Tryz.prog pL := {
  sizeBuilder := by kernel_rfl
  liesBuilder := by kernel_rfl
  t5 := Tryz.underlying5
  a5 := Tryz.isAgg5
  z5 := Tryz.sizeOf5
  v5 := Tryz.zeroValue5
  infoByte := by kernel_rfl
  cellsByte := by kernel_rfl
  sizeByte := by kernel_rfl
  neB5 := by decide }
open Go.RowKit in
theorem pM (B b : Nat) (l : List UInt8) (w : World) (h : Lib.IsBuilder 80 5 B b (Lib.byteCells l) w) (hBw : B ≤ w.heap.size) :
    Calls Tryz.prog 43 #[.pointer (some ⟨b, 0, none⟩)] w fun e w' => e = .returned (.string ⟨l.toArray⟩) ∧ Below B w w' := Any.Builder_String_any DU qM B b l w h hBw
def vM : Go.Shelf.Ren := ⟨fun | 137 => 41 | 217 => 69 | 266 => 97 | n => n, fun | 9 => 9 | 5 => 5 | 3 => 3 | n => n, fun | n => n⟩
theorem DW : Go.Proofs.Lays.n137 Tryz.prog vM := {
  mixed := by kernel_rfl
  f137 := Tryz.func41.trans (congrArg some (by kernel_rfl))
  f217 := Tryz.func69.trans (congrArg some (by kernel_rfl))
  f266 := Tryz.func97.trans (congrArg some (by kernel_rfl))
  t3 := Tryz.underlying3
  a3 := Tryz.isAgg3
  z3 := Tryz.sizeOf3
  v3 := Tryz.zeroValue3
  t5 := Tryz.underlying5
  a5 := Tryz.isAgg5
  z5 := Tryz.sizeOf5
  v5 := Tryz.zeroValue5
  t9 := Tryz.underlying9
  a9 := Tryz.isAgg9
  z9 := Tryz.sizeOf9
  v9 := Tryz.zeroValue9 }
open Go.RowKit in
theorem kC (s : ByteArray) (c : Int) (w : World) :
    Calls Tryz.prog 41 #[.string s, .int .u8 c] w fun e w' => e = .returned (.int .i64 (Lib.indexByte s.data.toList c.toNat.toUInt8)) ∧ w' = w := Any.strings_IndexByte DW s c w
def uD : Go.Shelf.Ren := ⟨fun | 171 => 102 | 243 => 126 | 246 => 140 | 283 => 154 | 284 => 155 | 285 => 156 | 286 => 157 | 129 => 165 | 317 => 164 | 318 => 166 | 319 => 167 | 320 => 168 | 337 => 181 | 338 => 182 | n => n, fun | 3 => 3 | 9 => 9 | 2 => 2 | 4 => 4 | 171 => 175 | 0 => 0 | 53 => 176 | 37 => 78 | 5 => 5 | 173 => 179 | 212 => 186 | 51 => 163 | 20 => 20 | 213 => 187 | 46 => 181 | 232 => 204 | 233 => 205 | n => n, fun | 17 => 1 | 18 => 2 | 19 => 3 | n => n⟩
theorem zU : Go.Proofs.LaysM.n171 Tryz.prog uD := {
  mixed := by kernel_rfl
  f129 := Tryz.func165.trans (congrArg some (by kernel_rfl))
  f171 := Tryz.func102.trans (congrArg some (by kernel_rfl))
  f243 := Tryz.func126.trans (congrArg some (by kernel_rfl))
  f246 := Tryz.func140.trans (congrArg some (by kernel_rfl))
  f283 := Tryz.func154.trans (congrArg some (by kernel_rfl))
  f284 := Tryz.func155.trans (congrArg some (by kernel_rfl))
  f285 := Tryz.func156.trans (congrArg some (by kernel_rfl))
  f286 := Tryz.func157.trans (congrArg some (by kernel_rfl))
  f317 := Tryz.func164.trans (congrArg some (by kernel_rfl))
  f318 := Tryz.func166.trans (congrArg some (by kernel_rfl))
  f319 := Tryz.func167.trans (congrArg some (by kernel_rfl))
  f320 := Tryz.func168.trans (congrArg some (by kernel_rfl))
  f337 := Tryz.func181.trans (congrArg some (by kernel_rfl))
  f338 := Tryz.func182.trans (congrArg some (by kernel_rfl))
  t0 := Tryz.underlying0
  a0 := Tryz.isAgg0
  z0 := Tryz.sizeOf0
  v0 := Tryz.zeroValue0
  t2 := Tryz.underlying2
  a2 := Tryz.isAgg2
  z2 := Tryz.sizeOf2
  v2 := Tryz.zeroValue2
  t3 := Tryz.underlying3
  a3 := Tryz.isAgg3
  z3 := Tryz.sizeOf3
  v3 := Tryz.zeroValue3
  t4 := Tryz.underlying4
  a4 := Tryz.isAgg4
  z4 := Tryz.sizeOf4
  v4 := Tryz.zeroValue4
  t5 := Tryz.underlying5
  a5 := Tryz.isAgg5
  z5 := Tryz.sizeOf5
  v5 := Tryz.zeroValue5
  t9 := Tryz.underlying9
  a9 := Tryz.isAgg9
  z9 := Tryz.sizeOf9
  v9 := Tryz.zeroValue9
  t20 := Tryz.underlying20
  a20 := Tryz.isAgg20
  z20 := Tryz.sizeOf20
  v20 := Tryz.zeroValue20
  t37 := Tryz.underlying78
  a37 := Tryz.isAgg78
  z37 := Tryz.sizeOf78
  v37 := Tryz.zeroValue78
  t46 := Tryz.underlying181
  a46 := Tryz.isAgg181
  z46 := Tryz.sizeOf181
  v46 := Tryz.zeroValue181
  t51 := Tryz.underlying163
  a51 := Tryz.isAgg163
  z51 := Tryz.sizeOf163
  v51 := Tryz.zeroValue163
  t53 := Tryz.underlying176
  a53 := Tryz.isAgg176
  z53 := Tryz.sizeOf176
  v53 := Tryz.zeroValue176
  t171 := Tryz.underlying175
  a171 := Tryz.isAgg175
  z171 := Tryz.sizeOf175
  v171 := Tryz.zeroValue175
  t173 := Tryz.underlying179
  a173 := Tryz.isAgg179
  z173 := Tryz.sizeOf179
  v173 := Tryz.zeroValue179
  t212 := Tryz.underlying186
  a212 := Tryz.isAgg186
  z212 := Tryz.sizeOf186
  v212 := Tryz.zeroValue186
  t213 := Tryz.underlying187
  a213 := Tryz.isAgg187
  z213 := Tryz.sizeOf187
  t232 := Tryz.underlying204
  a232 := Tryz.isAgg204
  z232 := Tryz.sizeOf204
  v232 := Tryz.zeroValue204
  t233 := Tryz.underlying205
  a233 := Tryz.isAgg205
  z233 := Tryz.sizeOf205
  v233 := Tryz.zeroValue205
  g17 := by kernel_rfl
  g18 := by kernel_rfl
  g19 := by kernel_rfl
  i0 := by kernel_rfl
  i2 := by kernel_rfl
  i3 := by kernel_rfl
  i4 := by kernel_rfl
  i5 := by kernel_rfl
  i9 := by kernel_rfl
  i20 := by kernel_rfl
  i37 := by kernel_rfl
  i46 := by kernel_rfl
  i51 := by kernel_rfl
  i53 := by kernel_rfl
  i171 := by kernel_rfl
  i173 := by kernel_rfl
  i212 := by kernel_rfl
  i232 := by kernel_rfl
  i233 := by kernel_rfl
  m17 := by kernel_rfl
  m18 := by kernel_rfl
  m19 := by kernel_rfl }
open Go.RowKit Go.Sort Go.Lib in
theorem uB (n : Int) (h0 : -9223372036854775808 ≤ n) (h1 : n ≤ 9223372036854775807) (w : World) (htab : Lib.TabIs Tryz.prog w "internal/strconv.uint64pow10" .u64 Lib.pow10Tab) :
    Calls Tryz.prog 102 #[.int .i64 n] w fun e w' => e = .returned (.string ⟨(Lib.itoa n).toArray⟩) ∧ ∃ k os, w' = grow (w.drewN k) os := Any.strconv_Itoa zU n h0 h1 w htab
def vL : Go.Shelf.Ren := ⟨fun | 143 => 144 | 219 => 159 | 217 => 69 | 225 => 169 | 224 => 170 | 267 => 171 | 266 => 97 | 314 => 183 | n => n, fun | 9 => 9 | 3 => 3 | 4 => 4 | 5 => 5 | 46 => 181 | 146 => 197 | 51 => 163 | n => n, fun | 1 => 0 | n => n⟩
theorem DV : Go.Proofs.Lays.n143 Tryz.prog vL := {
  mixed := by kernel_rfl
  f143 := Tryz.func144.trans (congrArg some (by kernel_rfl))
  f217 := Tryz.func69.trans (congrArg some (by kernel_rfl))
  f219 := Tryz.func159.trans (congrArg some (by kernel_rfl))
  f224 := Tryz.func170.trans (congrArg some (by kernel_rfl))
  f225 := Tryz.func169.trans (congrArg some (by kernel_rfl))
  f266 := Tryz.func97.trans (congrArg some (by kernel_rfl))
  f267 := Tryz.func171.trans (congrArg some (by kernel_rfl))
  f314 := Tryz.func183.trans (congrArg some (by kernel_rfl))
  t3 := Tryz.underlying3
  a3 := Tryz.isAgg3
  z3 := Tryz.sizeOf3
  v3 := Tryz.zeroValue3
  t4 := Tryz.underlying4
  a4 := Tryz.isAgg4
  z4 := Tryz.sizeOf4
  v4 := Tryz.zeroValue4
  t5 := Tryz.underlying5
  a5 := Tryz.isAgg5
  z5 := Tryz.sizeOf5
  v5 := Tryz.zeroValue5
  t9 := Tryz.underlying9
  a9 := Tryz.isAgg9
  z9 := Tryz.sizeOf9
  v9 := Tryz.zeroValue9
  t46 := Tryz.underlying181
  a46 := Tryz.isAgg181
  z46 := Tryz.sizeOf181
  v46 := Tryz.zeroValue181
  t51 := Tryz.underlying163
  a51 := Tryz.isAgg163
  z51 := Tryz.sizeOf163
  v51 := Tryz.zeroValue163
  t146 := Tryz.underlying197
  a146 := Tryz.isAgg197
  z146 := Tryz.sizeOf197
  v146 := Tryz.zeroValue197
  g1 := by kernel_rfl }
open Go.RowKit Go.Lib in
theorem tD (s sub : ByteArray) (m : Int) (w : World) (hs : s.size < 4294967281) (hm : w.cell? ⟨0, 0, none⟩ = some (.int .i64 m)) :
    Calls Tryz.prog 144 #[.string s, .string sub] w fun e w' => e = .returned (.int .i64 (Lib.index s.data.toList sub.data.toList)) ∧ w' = w := Any.strings_Index DV s sub m w hs hm
def uE : Go.Shelf.Ren := ⟨fun | 143 => 144 | 219 => 159 | 217 => 69 | 225 => 169 | 224 => 170 | 267 => 171 | 266 => 97 | 314 => 183 | n => n, fun | 9 => 9 | 3 => 3 | 4 => 4 | 5 => 5 | 46 => 181 | 146 => 197 | 51 => 163 | n => n, fun | 1 => 0 | n => n⟩
theorem Tryz.laysM143 : Go.Proofs.LaysM.n143 Tryz.prog uE := {
  mixed := by kernel_rfl
  f143 := Tryz.func144.trans (congrArg some (by kernel_rfl))
  f217 := Tryz.func69.trans (congrArg some (by kernel_rfl))
  f219 := Tryz.func159.trans (congrArg some (by kernel_rfl))
  f224 := Tryz.func170.trans (congrArg some (by kernel_rfl))
  f225 := Tryz.func169.trans (congrArg some (by kernel_rfl))
  f266 := Tryz.func97.trans (congrArg some (by kernel_rfl))
  f267 := Tryz.func171.trans (congrArg some (by kernel_rfl))
  f314 := Tryz.func183.trans (congrArg some (by kernel_rfl))
  t3 := Tryz.underlying3
  a3 := Tryz.isAgg3
  z3 := Tryz.sizeOf3
  v3 := Tryz.zeroValue3
  t4 := Tryz.underlying4
  a4 := Tryz.isAgg4
  z4 := Tryz.sizeOf4
  v4 := Tryz.zeroValue4
  t5 := Tryz.underlying5
  a5 := Tryz.isAgg5
  z5 := Tryz.sizeOf5
  v5 := Tryz.zeroValue5
  t9 := Tryz.underlying9
  a9 := Tryz.isAgg9
  z9 := Tryz.sizeOf9
  v9 := Tryz.zeroValue9
  t46 := Tryz.underlying181
  a46 := Tryz.isAgg181
  z46 := Tryz.sizeOf181
  v46 := Tryz.zeroValue181
  t51 := Tryz.underlying163
  a51 := Tryz.isAgg163
  z51 := Tryz.sizeOf163
  v51 := Tryz.zeroValue163
  t146 := Tryz.underlying197
  a146 := Tryz.isAgg197
  z146 := Tryz.sizeOf197
  v146 := Tryz.zeroValue197
  g1 := by kernel_rfl
  i3 := by kernel_rfl
  i4 := by kernel_rfl
  i5 := by kernel_rfl
  i9 := by kernel_rfl
  i46 := by kernel_rfl
  i51 := by kernel_rfl
  i146 := by kernel_rfl
  m1 := by kernel_rfl
  s1_3 := fun w h => Go.Proofs.cell_of_shapedOpen_int (zero := #[.int .i64 0]) (t := 3) h (of_decide_eq_true (by kernel_rfl)) (by kernel_rfl) rfl (by kernel_rfl) (by kernel_rfl) Tryz.underlying3 }
def zE : Go.Shelf.Ren := ⟨fun | 6 => 151 | 15 => 163 | 14 => 162 | 28 => 180 | 29 => 165 | 20 => 172 | 21 => 173 | 22 => 174 | 23 => 175 | 24 => 176 | 25 => 177 | 26 => 178 | 27 => 179 | 46 => 184 | 47 => 185 | 48 => 186 | 49 => 187 | 50 => 188 | 57 => 189 | n => n, fun | 22 => 24 | 24 => 56 | 25 => 174 | 3 => 3 | 39 => 181 | 0 => 0 | 53 => 163 | 55 => 176 | 4 => 4 | 46 => 190 | 45 => 189 | 50 => 194 | 5 => 5 | 9 => 9 | 66 => 199 | 70 => 90 | 76 => 206 | 77 => 134 | n => n, fun | n => n⟩
theorem zF : Go.Proofs.SlLaysF0.n6 Tryz.prog zE := {
  mixed := by kernel_rfl
  f6 := ⟨Tryz.f151.name, by decide, Tryz.func151.trans (congrArg some (by kernel_rfl))⟩
  f14 := ⟨Tryz.f162.name, by decide, Tryz.func162.trans (congrArg some (by kernel_rfl))⟩
  f15 := Tryz.func163.trans (congrArg some (by kernel_rfl))
  f20 := ⟨Tryz.f172.name, by decide, Tryz.func172.trans (congrArg some (by kernel_rfl))⟩
  f21 := ⟨Tryz.f173.name, by decide, Tryz.func173.trans (congrArg some (by kernel_rfl))⟩
  f22 := ⟨Tryz.f174.name, by decide, Tryz.func174.trans (congrArg some (by kernel_rfl))⟩
  f23 := ⟨Tryz.f175.name, by decide, Tryz.func175.trans (congrArg some (by kernel_rfl))⟩
  f24 := ⟨Tryz.f176.name, by decide, Tryz.func176.trans (congrArg some (by kernel_rfl))⟩
  f25 := ⟨Tryz.f177.name, by decide, Tryz.func177.trans (congrArg some (by kernel_rfl))⟩
  f26 := ⟨Tryz.f178.name, by decide, Tryz.func178.trans (congrArg some (by kernel_rfl))⟩
  f27 := ⟨Tryz.f179.name, by decide, Tryz.func179.trans (congrArg some (by kernel_rfl))⟩
  f28 := Tryz.func180.trans (congrArg some (by kernel_rfl))
  f29 := Tryz.func165.trans (congrArg some (by kernel_rfl))
  f46 := ⟨Tryz.f184.name, by decide, Tryz.func184.trans (congrArg some (by kernel_rfl))⟩
  f47 := Tryz.func185.trans (congrArg some (by kernel_rfl))
  f48 := Tryz.func186.trans (congrArg some (by kernel_rfl))
  f49 := ⟨Tryz.f187.name, by decide, Tryz.func187.trans (congrArg some (by kernel_rfl))⟩
  f50 := ⟨Tryz.f188.name, by decide, Tryz.func188.trans (congrArg some (by kernel_rfl))⟩
  f57 := ⟨Tryz.f189.name, by decide, Tryz.func189.trans (congrArg some (by kernel_rfl))⟩
  t0 := Tryz.underlying0
  a0 := Tryz.isAgg0
  z0 := Tryz.sizeOf0
  v0 := Tryz.zeroValue0
  t3 := Tryz.underlying3
  a3 := Tryz.isAgg3
  z3 := Tryz.sizeOf3
  v3 := Tryz.zeroValue3
  t4 := Tryz.underlying4
  a4 := Tryz.isAgg4
  z4 := Tryz.sizeOf4
  v4 := Tryz.zeroValue4
  t5 := Tryz.underlying5
  a5 := Tryz.isAgg5
  z5 := Tryz.sizeOf5
  v5 := Tryz.zeroValue5
  t9 := Tryz.underlying9
  a9 := Tryz.isAgg9
  z9 := Tryz.sizeOf9
  v9 := Tryz.zeroValue9
  t22 := Tryz.underlying24
  a22 := Tryz.isAgg24
  z22 := Tryz.sizeOf24
  v22 := Tryz.zeroValue24
  t25 := Tryz.underlying174
  a25 := Tryz.isAgg174
  z25 := Tryz.sizeOf174
  v25 := Tryz.zeroValue174
  t39 := Tryz.underlying181
  a39 := Tryz.isAgg181
  z39 := Tryz.sizeOf181
  v39 := Tryz.zeroValue181
  t45 := Tryz.underlying189
  a45 := Tryz.isAgg189
  z45 := Tryz.sizeOf189
  v45 := Tryz.zeroValue189
  t46 := Tryz.underlying190
  a46 := Tryz.isAgg190
  z46 := Tryz.sizeOf190
  v46 := Tryz.zeroValue190
  t50 := Tryz.underlying194
  a50 := Tryz.isAgg194
  z50 := Tryz.sizeOf194
  v50 := Tryz.zeroValue194
  t53 := Tryz.underlying163
  a53 := Tryz.isAgg163
  z53 := Tryz.sizeOf163
  v53 := Tryz.zeroValue163
  t55 := Tryz.underlying176
  a55 := Tryz.isAgg176
  z55 := Tryz.sizeOf176
  v55 := Tryz.zeroValue176
  t66 := Tryz.underlying199
  a66 := Tryz.isAgg199
  z66 := Tryz.sizeOf199
  v66 := Tryz.zeroValue199
  t70 := Tryz.underlying90
  a70 := Tryz.isAgg90
  z70 := Tryz.sizeOf90
  v70 := Tryz.zeroValue90
  t76 := Tryz.underlying206
  a76 := Tryz.isAgg206
  z76 := Tryz.sizeOf206
  v76 := Tryz.zeroValue206
  t77 := Tryz.underlying134
  a77 := Tryz.isAgg134
  z77 := Tryz.sizeOf134
  v77 := Tryz.zeroValue134 }
end Go.Proofs.YtljadkcojnlioaaGreatDoor
namespace Go.W
theorem wrapU {k : IntKind} (hk : k.signed = false) (n : Nat) : k.wrap (n : Int) = ((n % 2 ^ k.bits : Nat) : Int) := by
  cases k <;> simp [IntKind.signed] at hk <;> simp [IntKind.wrap, IntKind.signed, IntKind.bits]
def u64 (n : Int) : Nat := (n % 18446744073709551616).toNat
def i64 (n : Int) : Int := if n % 18446744073709551616 < 9223372036854775808 then n % 18446744073709551616 else n % 18446744073709551616 - 18446744073709551616
section
variable {P : Program} {σ : Env} {w : World} {dst : Option Nat} {T : TypeId} {pos : String} {after : Array Edge} {g : Option (Nat × Bool)}
theorem jY {x y : Operand} {t t' : TypeId} {k yk : IntKind} {m n : Nat} {x' z : Int} (hx : σ.ev x = some (.int k x')) (hy : σ.ev y = some (.int yk z)) (hm : x' = ((m : Nat) : Int)) (hz : z = ((n : Nat) : Int)) (hn : n ≤ k.bits) :
    Ex P σ ⟨dst, .binOp .shr t x y t', T, pos, after, g⟩ w (.int k ((m / 2 ^ n : Nat) : Int)) w := fun ρ h => by
  subst hm hz
  have h0 : ¬ ((n : Nat) : Int) < 0 := by omega
  have h2 : ((m : Nat) : Int).fdiv (2 ^ n) = ((m / 2 ^ n : Nat) : Int) := by rw [Int.fdiv_eq_ediv_of_nonneg _ (by exact_mod_cast Nat.zero_le (2 ^ n))]; push_cast; rfl
  simp only [execOp, h x _ hx, h y _ hy]
  simp only [eqGuard, Go.binOp, Op.shift, Sem.run_bind, Sem.run_pure, Result.andThen_ok, if_neg h0, Int.toNat_natCast, Nat.min_eq_left hn, h2]
  simp
theorem HB {k : IntKind} {m n : Nat} (hk : k.signed = false) (hm : m < 2 ^ k.bits) (hn : n < 2 ^ k.bits) : (BitVec.ofInt k.bits m).toNat = m ∧ (BitVec.ofInt k.bits n).toNat = n := by
  constructor
  · rw [BitVec.ofInt_natCast, BitVec.toNat_ofNat, Nat.mod_eq_of_lt hm]
  · rw [BitVec.ofInt_natCast, BitVec.toNat_ofNat, Nat.mod_eq_of_lt hn]
theorem kA {x y : Operand} {t t' : TypeId} {k : IntKind} {m n : Nat} {x' z : Int} (hx : σ.ev x = some (.int k x')) (hy : σ.ev y = some (.int k z)) (hm : x' = ((m : Nat) : Int)) (hz : z = ((n : Nat) : Int)) (hk : k.signed = false) (h1 : m < 2 ^ k.bits) (h2 : n < 2 ^ k.bits) :
    Ex P σ ⟨dst, .binOp .and t x y t', T, pos, after, g⟩ w (.int k ((m &&& n : Nat) : Int)) w := fun ρ h => by
  subst hm hz
  obtain ⟨e1, e2⟩ := HB hk h1 h2
  simp only [execOp, h x _ hx, h y _ hy]
  have hr := wrapU hk (m &&& n)
  rw [Nat.mod_eq_of_lt (Nat.lt_of_le_of_lt Nat.and_le_left h1)] at hr
  simp only [eqGuard, Go.binOp, Op.intBits, Sem.run_bind, Sem.run_pure, Result.andThen_ok, BitVec.toNat_and, e1, e2, hr]
  simp
theorem jI {x y : Operand} {t t' : TypeId} {k : IntKind} {m n : Nat} {x' z : Int} (hx : σ.ev x = some (.int k x')) (hy : σ.ev y = some (.int k z)) (hm : x' = ((m : Nat) : Int)) (hz : z = ((n : Nat) : Int)) (hk : k.signed = false) (h1 : m < 2 ^ k.bits) (h2 : n < 2 ^ k.bits) :
    Ex P σ ⟨dst, .binOp .or t x y t', T, pos, after, g⟩ w (.int k ((m ||| n : Nat) : Int)) w := fun ρ h => by
  subst hm hz
  obtain ⟨e1, e2⟩ := HB hk h1 h2
  simp only [execOp, h x _ hx, h y _ hy]
  have hr := wrapU hk (m ||| n)
  rw [Nat.mod_eq_of_lt (Nat.or_lt_two_pow h1 h2)] at hr
  simp only [eqGuard, Go.binOp, Op.intBits, Sem.run_bind, Sem.run_pure, Result.andThen_ok, BitVec.toNat_or, e1, e2, hr]
  simp
theorem MC {x : Operand} {t t' : TypeId} {k k' : IntKind} {n : Int} (hx : σ.ev x = some (.int k n)) (ht : P.underlying t = some (.int k)) (ht' : P.underlying t' = some (.int k')) :
    Ex P σ ⟨dst, .convert t t' x, T, pos, after, g⟩ w (.int k' (k'.wrap n)) w := fun ρ h => by
  simp [execOp, h x _ hx, convert, run_underlying ht, run_underlying ht', Conv.intToInt]
theorem jC {x : Operand} {t t' : TypeId} {k k' : IntKind} {n : Int} (hx : σ.ev x = some (.int k n)) (ht : P.underlying t = some (.int k)) (ht' : P.underlying t' = some (.int k')) (h1 : k'.min ≤ n) (h2 : n ≤ k'.max) :
    Ex P σ ⟨dst, .convert t t' x, T, pos, after, g⟩ w (.int k' n) w := by
  have := MC (w := w) (dst := dst) (T := T) (pos := pos) (after := after) (g := g) hx ht ht'
  rwa [wK h1 h2] at this
end
def RB : Rel Nat := fun _ _ vs n => vs = [.int .u8 (n : Int)] ∧ n < 256
theorem RB.pers : RB.Pers := fun _ _ _ _ _ _ h => h
theorem RB.fresh : RB.Fresh := fun _ _ _ _ _ _ h => h
theorem RB.one : ∀ X w vs d, RB X w vs d → ∀ u, u ∈ vs → u.oneCell' = true := fun _ _ _ _ h u hu => by
  obtain ⟨rfl, _⟩ := h; simp at hu; subst hu; rfl
def bstr (ds : List Nat) : ByteArray := ⟨(ds.map UInt8.ofNat).toArray⟩
theorem yU {a b : List Nat} (ha : ∀ x, x ∈ a → x < 256) (hb : ∀ x, x ∈ b → x < 256) : bstr a = bstr b ↔ a = b := by
  constructor
  · intro h
    have h1 : a.map UInt8.ofNat = b.map UInt8.ofNat := by
      have := congrArg (fun x : ByteArray => x.data.toList) h
      simpa [bstr] using this
    clear h
    induction a generalizing b with
    | nil => cases b with | nil => rfl | cons _ _ => simp at h1
    | cons x a ih =>
      cases b with
      | nil => simp at h1
      | cons y b =>
        simp only [List.map_cons, List.cons.injEq] at h1
        have hx := ha x (by simp)
        have hy := hb y (by simp)
        have h2 := congrArg UInt8.toNat h1.1
        simp [UInt8.toNat_ofNat'] at h2
        rw [ih (fun z hz => ha z (List.mem_cons_of_mem _ hz)) (fun z hz => hb z (List.mem_cons_of_mem _ hz)) h1.2]
        congr 1
        omega
  · intro h; rw [h]
section
variable {P : Program} {σ : Env} {w : World} {dst : Option Nat} {T : TypeId} {pos : String} {after : Array Edge} {g : Option (Nat × Bool)}
end
section
variable {P : Program} {N : NN} {R : kK} {σ : Env} {w : World} {ops : Array Oper} {rest : List Oper} {d : Nat} {T : TypeId} {pos : String} {after : Array Edge}
def RZ (P : Program) (t : TypeId) : Option (TypeId × Nat × Nat × Array Value) :=
  match P.underlying t with
  | some (.slice e) => match P.info? e with
    | some i => match i.zero with
      | some z => if z.cells.size = i.size then some (e, i.size, i.bytes, z.cells) else none
      | none => none
    | none => none
  | _ => none
def sI (z : Array Value) (n : Nat) : List Value := (List.replicate n z.toList).flatten
theorem zY (z : Array Value) (n : Nat) : (sI z n).length = n * z.size := by simp [sI]
theorem zN {z : Array Value} {n k : Nat} (hz : 0 < z.size) (h : k < n) : (madeCells z n)[k]? = some (z[k % z.size]'(Nat.mod_lt _ hz)) := by
  simp [madeCells, h, Nat.mod_lt _ hz]
theorem zZ {z : Array Value} : ∀ {n k : Nat} (hz : 0 < z.size), k < n * z.size → (sI z n)[k]? = some (z[k % z.size]'(Nat.mod_lt _ hz))
  | 0, k, _, h => by simp at h
  | n + 1, k, hz, h => by
    have e : sI z (n + 1) = z.toList ++ sI z n := by simp [sI, List.replicate_succ]
    rw [e, List.getElem?_append]
    split
    · rename_i hk
      simp at hk
      simp [hk, Nat.mod_eq_of_lt hk]
    · rename_i hk
      simp at hk
      rw [Nat.add_mul] at h
      rw [zZ hz (by simp; omega)]
      simp only [Array.length_toList, Option.some.injEq]
      congr 1
      rw [Nat.mod_eq_sub_mod hk]
theorem wF {z : Array Value} {n l : Nat} (hz : 0 < z.size) (hl : l ≤ n) : ((madeCells z (n * z.size)).toList.take (l * z.size)) = sI z l := by
  have hle : l * z.size ≤ n * z.size := Nat.mul_le_mul_right _ hl
  apply List.ext_getElem?
  intro k
  rw [List.getElem?_take]
  split
  · rename_i hk
    rw [zZ hz hk]
    have := zN (z := z) (n := n * z.size) (k := k) hz (by omega)
    simpa using this
  · rename_i hk
    rw [List.getElem?_eq_none]
    rw [zY]; omega
theorem JW {t e : TypeId} {x y : Operand} {kl kc : IntKind} {lv cv : Int} {sz bytes len c : Nat} {z : Array Value} (hd : Nat.blt d N.1 = true) (hx : σ.ev x = some (.int kl lv)) (hy : σ.ev y = some (.int kc cv)) (hf : RZ P t = some (e, sz, bytes, z))
    (hlv : lv = (len : Nat)) (hcv : cv = (c : Nat)) (hlc : len ≤ c) (hz : 0 < z.size) (hb : bytes * c ≤ 140737488355328) (hcm : c ≤ 140737488355328)
    (h : ∀ b w', OwnS w' e sz (some ⟨b, 0, none⟩) len c (sI z len) (some b) → w.heap.size = b → Evo [] w w' → WL P N ops R rest ((d, .slice (some ⟨b, 0, none⟩) len c) :: σ) w') :
    WL P N ops R (⟨some d, .makeSlice t x y, T, pos, after, none⟩ :: rest) σ w := by
  subst hlv hcv
  simp only [RZ] at hf
  split at hf <;> try cases hf
  rename_i e' ht
  split at hf <;> try cases hf
  rename_i i hi
  split at hf <;> try cases hf
  rename_i z' hz'
  split at hf <;> try cases hf
  rename_i hsz
  have hbb : (i.bytes : Int) * (c : Int) ≤ 281474976710656 := by
    have : ((i.bytes * c : Nat) : Int) ≤ 281474976710656 := by omega
    rwa [Int.natCast_mul] at this
  have hr := run_make (P := P) w t _ i _ ht hi hz' kl kc len c (by omega) (by omega) hbb (by omega)
  simp only [Int.toNat_natCast] at hr
  refine jF (w' := w.alloc (.cells (madeCells z'.cells (c * i.size)) e)) hd (fun ρ ha => ?_) (h w.heap.size _ ⟨by rw [zY, hsz], .inr ⟨w.heap.size, c, _, rfl, rfl, heap_alloc_new w _, hlc, by unfold maxLen; omega, size_madeCells _ _, ?_⟩⟩ rfl (pJ w _))
  · simp [execOp, ha x _ hx, ha y _ hy, hr]
  · rw [← hsz]; exact wF hz hlc
end
def tH (xs : List Value) (o : Nat) (vs : List Value) : List Value := xs.take o ++ vs ++ xs.drop (o + vs.length)
theorem NE {xs vs : List Value} {o : Nat} (h : o + vs.length ≤ xs.length) : (tH xs o vs).length = xs.length := by
  simp only [tH, List.length_append, List.length_take, List.length_drop]; omega
theorem II {xs vs : List Value} {o m : Nat} (h : o + vs.length ≤ m) (hm : m ≤ xs.length) : (tH xs o vs).take m = tH (xs.take m) o vs := by
  simp only [tH]
  have h1 : (xs.take o ++ vs).length = o + vs.length := by simp only [List.length_append, List.length_take]; omega
  rw [List.take_append, h1, List.take_of_length_le (by omega), List.take_take, Nat.min_eq_left (by omega), List.drop_take]
theorem OwnS.put {w w' : World} {e : TypeId} {sz : Nat} {a : Option Addr} {n c : Nat} {xs vs : List Value} {ob : Option Nat} {g : Nat} {cur : Array Value} {U : TypeId} {o k : Nat} (h : OwnS w e sz a n c xs ob) (hg : ob = some g) (hb : w.heap[g]? = some (.cells cur U (0, 0))) (ho : o = k * sz) (hk : k < n) (hv : vs.length = sz)
    (hb' : w'.heap[g]? = some (.cells (cur.toList.take o ++ vs ++ cur.toList.drop (o + sz)).toArray U (0, 0))) : OwnS w' e sz a n c (tH xs o vs) ob := by
  subst hg ho
  have hl := h.1
  have hle : k * sz + sz ≤ n * sz := by have : (k + 1) * sz ≤ n * sz := Nat.mul_le_mul_right _ hk; rw [Nat.add_mul] at this; omega
  have hxl : xs.length = n * sz := hl
  refine ⟨by rw [NE (by rw [hv]; omega)]; exact hl, ?_⟩
  rcases h.2 with ⟨_, _, h2⟩ | ⟨g', cap, cur', hg, hv2, hbb, hn, hc, hs, ht⟩
  · cases h2
  · cases hg
    rw [hb] at hbb
    cases hbb
    have hncs : n * sz ≤ cap * sz := Nat.mul_le_mul_right _ hn
    refine .inr ⟨g, cap, _, rfl, hv2, hb', hn, hc, ?_, ?_⟩
    · simp only [List.size_toArray, List.length_append, List.length_take, List.length_drop, Array.length_toList]; omega
    · have := II (xs := cur.toList) (vs := vs) (o := k * sz) (m := n * sz) (by rw [hv]; omega) (by simp only [Array.length_toList]; omega)
      rw [ht] at this
      rw [← this]
      simp only [tH, hv]
structure Sl where
  a : Option Addr
  n : Nat
  c : Nat
  ob : Option Nat
abbrev Sl.v (s : Sl) : Value := .slice s.a s.n s.c
structure Fam (w : World) (e : TypeId) (sz N : Nat) (S : Nat → Sl) (xs : Nat → List Value) : Prop where
  own : ∀ i, i < N → OwnS w e sz (S i).a (S i).n (S i).c (xs i) (S i).ob
  ap : ∀ i j, i < N → j < N → i ≠ j → Apart (S i).ob (S j).ob
section
variable {w w' : World} {e : TypeId} {sz N : Nat} {S : Nat → Sl} {xs : Nat → List Value} {X : List Nat} {i : Nat}
theorem Fam.evo (h : Fam w e sz N S xs) (he : Evo X w w') (hx : ∀ k, k < N → ∀ g, (S k).ob = some g → g ∉ X) : Fam w' e sz N S xs := ⟨fun k hk => (h.own k hk).evo he (hx k hk), h.ap⟩
theorem Fam.evo0 (h : Fam w e sz N S xs) (he : Evo [] w w') : Fam w' e sz N S xs := h.evo he (fun _ _ _ _ h => by cases h)
theorem Fam.lt (h : Fam w e sz N S xs) {k : Nat} (hk : k < N) : Lt w (S k).ob := Lt.own (h.own k hk)
theorem Fam.upd (h : Fam w e sz N S xs) (hi : i < N) {s : Sl} {ys : List Value} (ho : OwnS w' e sz s.a s.n s.c ys s.ob) (he : Evo (S i).ob.toList w w') (hb : s.ob = (S i).ob ∨ Ge w s.ob) : Fam w' e sz N (fun k => if k = i then s else S k) (fun k => if k = i then ys else xs k) := by
  have key : ∀ k, k < N → k ≠ i → Apart s.ob (S k).ob := fun k hk hki => by
    rcases hb with hb | hb
    · rw [hb]; exact h.ap i k hi hk (fun h => hki h.symm)
    · exact (Apart.fresh (h.lt hk) hb).symm
  refine ⟨fun k hk => ?_, fun a b ha hb' hab => ?_⟩
  · by_cases hki : k = i
    · subst hki; simp only [if_true]; exact ho
    · simp only [if_neg hki]; exact (h.own k hk).evo he (h.ap k i hk hi hki).own
  · by_cases h1 : a = i
    · subst h1
      simp only [if_true, if_neg (fun h => hab h.symm : ¬ b = a)]
      exact key b hb' (fun h => hab h.symm)
    · by_cases h2 : b = i
      · subst h2
        simp only [if_true, if_neg h1]
        exact (key a ha h1).symm
      · simp only [if_neg h1, if_neg h2]; exact h.ap a b ha hb' hab
theorem Fam.congr (h : Fam w e sz N S xs) {S' : Nat → Sl} {ys : Nat → List Value} (h1 : ∀ k, k < N → S' k = S k) (h2 : ∀ k, k < N → ys k = xs k) : Fam w e sz N S' ys :=
  ⟨fun k hk => by rw [h1 k hk, h2 k hk]; exact h.own k hk, fun a b ha hb hab => by rw [h1 a ha, h1 b hb]; exact h.ap a b ha hb hab⟩
theorem FN {a : Option Addr} {n c : Nat} {ys : List Value} {ob : Option Nat} (h : OwnS w e sz a n c ys ob) : a = ob.map fun g => ⟨g, 0, none⟩ := by
  rcases h.2 with ⟨h1, _, h3⟩ | ⟨g, cap, cur, hg, hv, _⟩
  · cases h1; subst h3; rfl
  · cases hv; subst hg; rfl
end
def Reads (w : World) (sz : Nat) (s : Sl) (mk : List Value) : Prop := ∀ j, j < s.n → ∃ g, s.a = some ⟨g, 0, none⟩ ∧ s.ob = some g ∧ CellsAt w g (0 + j * sz) mk
abbrev rep (m : Nat) (mk : List Value) : List Value := (List.replicate m mk).flatten
theorem BL (m : Nat) (mk : List Value) : (rep m mk).length = m * mk.length := by simp [rep]
theorem PN (m : Nat) (mk : List Value) : rep (m + 1) mk = rep m mk ++ mk := by
  simp [rep, List.replicate_succ']
theorem rep_at {m : Nat} {mk : List Value} {j i : Nat} (hj : j < m) (hi : i < mk.length) : (rep m mk)[j * mk.length + i]? = mk[i]? := by
  induction m with
  | zero => omega
  | succ m ih =>
    rw [PN]
    by_cases h : j < m
    · rw [List.getElem?_append_left (by rw [BL]; have : (j + 1) * mk.length ≤ m * mk.length := Nat.mul_le_mul_right _ h; rw [Nat.add_mul] at this; omega)]
      exact ih h
    · obtain rfl : j = m := by omega
      rw [List.getElem?_append_right (by rw [BL]; omega), BL, Nat.add_sub_cancel_left]
theorem OwnS.reads {w : World} {e : TypeId} {sz : Nat} {a : Option Addr} {n c m : Nat} {mk : List Value} {ob : Option Nat} (h : OwnS w e sz a n c (rep n mk) ob) (hm : mk.length = sz) {s : Sl} (hs : s.a = a) (hb : s.ob = ob) (hn : s.n ≤ n) : Reads w sz s mk := fun j hj => by
  obtain ⟨g, hg, ha, hc⟩ := h.cells (by omega)
  refine ⟨g, by rw [hs, ha], by rw [hb, hg], fun i v hv => ?_⟩
  have hi := (List.getElem?_eq_some_iff.1 hv).1
  have := hc (j * sz + i) v (by rw [← hm, rep_at (by omega) hi]; exact hv)
  rw [show 0 + j * sz + i = 0 + (j * sz + i) by omega]; exact this
theorem Reads.evo {w w' : World} {sz : Nat} {s : Sl} {mk : List Value} {X : List Nat} (h : Reads w sz s mk) (he : Evo X w w') (hx : ∀ g, s.ob = some g → g ∉ X) : Reads w' sz s mk := fun j hj => by
  obtain ⟨g, h1, h2, h3⟩ := h j hj
  exact ⟨g, h1, h2, h3.evo he (hx g h2)⟩
structure Pair (w : World) (e : TypeId) (sz N : Nat) (s t : Nat → Sl) (mk : Nat → List Value) : Prop where
  fam : Fam w e sz N t (fun k => rep (t k).n (mk k))
  lt : ∀ k, k < N → Lt w (s k).ob
  ap : ∀ i j, i < N → j < N → i ≠ j → Apart (t i).ob (s j).ob
  old : ∀ k, k < N → ((t k).ob = (s k).ob ∧ (s k).n ≤ (t k).n) ∨ (Apart (t k).ob (s k).ob ∧ Reads w sz (s k) (mk k))
  addr : ∀ k, k < N → (s k).a = (s k).ob.map fun g => ⟨g, 0, none⟩
section
variable {w w' : World} {e : TypeId} {sz N : Nat} {s t : Nat → Sl} {mk : Nat → List Value} {X : List Nat} {i : Nat}
theorem Pair.reads (h : Pair w e sz N s t mk) (hm : ∀ k, (mk k).length = sz) {k : Nat} (hk : k < N) : Reads w sz (s k) (mk k) := by
  rcases h.old k hk with ⟨h1, h2⟩ | ⟨_, h2⟩
  · have ho := h.fam.own k hk
    exact OwnS.reads (m := 0) ho (hm k) (by rw [h.addr k hk, FN ho, h1]) h1.symm h2
  · exact h2
theorem Pair.evo0 (h : Pair w e sz N s t mk) (he : Evo [] w w') : Pair w' e sz N s t mk where
  fam := h.fam.evo0 he
  lt := fun k hk g hg => Nat.lt_of_lt_of_le (h.lt k hk g hg) he.size
  ap := h.ap
  old := fun k hk => (h.old k hk).imp id fun ⟨h1, h2⟩ => ⟨h1, h2.evo he (fun _ _ h => by cases h)⟩
  addr := h.addr
theorem Pair.evo (h : Pair w e sz N s t mk) (he : Evo X w w') (h1 : ∀ k, k < N → ∀ g, (t k).ob = some g → g ∉ X) (h2 : ∀ k, k < N → ∀ g, (s k).ob = some g → g ∉ X) : Pair w' e sz N s t mk where
  fam := h.fam.evo he h1
  lt := fun k hk g hg => Nat.lt_of_lt_of_le (h.lt k hk g hg) he.size
  ap := h.ap
  old := fun k hk => (h.old k hk).imp id fun ⟨h3, h4⟩ => ⟨h3, h4.evo he (h2 k hk)⟩
  addr := h.addr
theorem Pair.app (h : Pair w e sz N s t mk) (hm : ∀ k, (mk k).length = sz) (hi : i < N) {r : Sl} (hn : r.n = (t i).n + 1) (ho : OwnS w' e sz r.a r.n r.c (rep r.n (mk i)) r.ob) (he : Evo (t i).ob.toList w w') (hb : r.ob = (t i).ob ∨ ∃ g, r.ob = some g ∧ w.heap.size ≤ g ∧ Evo [] w w') :
    Pair w' e sz N s (fun k => if k = i then r else t k) mk := by
  have hb' : r.ob = (t i).ob ∨ Ge w r.ob := hb.imp id fun ⟨g, h1, h2, _⟩ => fun g' hg' => by rw [h1] at hg'; cases hg'; exact h2
  have hsz := he.size
  refine ⟨(h.fam.upd hi ho he hb').congr (fun _ _ => rfl) (fun k hk => ?_), fun k hk g hg => Nat.lt_of_lt_of_le (h.lt k hk g hg) hsz, fun a b ha hb2 hab => ?_, fun k hk => ?_, h.addr⟩
  · by_cases hki : k = i
    · subst hki; simp only [if_true]
    · simp only [if_neg hki]
  · by_cases h1 : a = i
    · subst h1
      simp only [if_true]
      rcases hb' with h2 | h2
      · rw [h2]; exact h.ap a b ha hb2 hab
      · exact (Apart.fresh (h.lt b hb2) h2).symm
    · simp only [if_neg h1]; exact h.ap a b ha hb2 hab
  · by_cases hki : k = i
    · subst hki
      simp only [if_true]
      rcases hb with h1 | ⟨g, h1, h2, h3⟩
      · rw [h1, hn]
        rcases h.old k hk with ⟨h4, h5⟩ | ⟨h4, h5⟩
        · exact .inl ⟨h4, by omega⟩
        · exact .inr ⟨h4, h5.evo he (Apart.symm h4).own⟩
      · refine .inr ⟨(Apart.fresh (h.lt k hk) (fun g' hg' => by rw [h1] at hg'; cases hg'; exact h2)).symm, (h.reads hm hk).evo h3 (fun _ _ h => by cases h)⟩
    · simp only [if_neg hki]
      rcases h.old k hk with h4 | ⟨h4, h5⟩
      · exact .inl h4
      · exact .inr ⟨h4, h5.evo he ((h.ap i k hi hk (fun h => hki h.symm)).symm).own⟩
end
def sb (s : ByteArray) (n : Nat) : Nat := (s.get! n).toNat
theorem jM (s : ByteArray) (n : Nat) : sb s n < 256 := (s.get! n).toNat_lt
theorem qR (s : ByteArray) (n : Nat) (h : n < s.size) : sb s n = (s[n]'h).toNat := by
  unfold sb
  simp [ByteArray.get!, getElem!_pos, h]
  rfl
section
variable {P : Program} {σ : Env} {w : World} {dst : Option Nat} {T : TypeId} {pos : String} {after : Array Edge} {g : Option (Nat × Bool)}
theorem fL {x i : Operand} {t : TypeId} {k : IntKind} {s : ByteArray} {z : Int} {n : Nat} (hx : σ.ev x = some (.string s)) (hi : σ.ev i = some (.int k z)) (ht : P.underlying t = some .string) (hz : z = (n : Int)) (hn : n < s.size) :
    Ex P σ ⟨dst, .index t x i, T, pos, after, g⟩ w (.int .u8 (sb s n : Nat)) w := fun ρ h => by
  subst hz
  have hc : 0 ≤ (n : Int) ∧ (n : Int) < s.size := ⟨by omega, by omega⟩
  have := run_index_string (P := P) w t s k n ht
  rw [dif_pos hc] at this
  simp only [execOp, h x _ hx, h i _ hi, Sem.run_bind, this, Result.andThen_ok, Sem.run_pure, qR s n hn]
  rfl
theorem CR {x lo hi : Operand} {t : TypeId} {s : ByteArray} {lv hv : Int} {l h : Nat} (hx : σ.ev x = some (.string s)) (hlo : σ.ev lo = some (.int .i64 lv)) (hhi : σ.ev hi = some (.int .i64 hv)) (ht : P.underlying t = some .string) (hl : lv = (l : Int)) (hh : hv = (h : Int)) (hlh : l ≤ h) (hhc : h ≤ s.size) :
    Ex P σ ⟨dst, .slice t x (some lo) (some hi) none, T, pos, after, g⟩ w (.string (s.extract l h)) w := fun ρ hρ => by
  subst hl hh
  have := run_slice_string (P := P) w t s .i64 .i64 (l : Int) (h : Int) ht (by omega) (by omega) (by omega)
  simp only [execOp, hρ x _ hx, Option.map_some, Option.map_none, hρ lo _ hlo, hρ hi _ hhi, Instr.sliceAt, run_underlying ht, Sem.run_bind, Result.andThen_ok, this, Int.toNat_natCast, Sem.run_pure]
theorem cI {x y : Operand} {t t' : TypeId} {a b : ByteArray} (hx : σ.ev x = some (.string a)) (hy : σ.ev y = some (.string b)) (hab : a.size + b.size ≤ 9223372036854775807) :
    Ex P σ ⟨dst, .binOp .add t x y t', T, pos, after, g⟩ w (.string (a ++ b)) w := fun ρ h => by
  simp [execOp, h x _ hx, h y _ hy, eqGuard, Go.binOp, run_string_add_sum (P := P) w a b hab]
theorem kH {x : Operand} {t t' : TypeId} {k k' : IntKind} {z : Int} (n : Nat) (hx : σ.ev x = some (.int k z)) (ht : P.underlying t = some (.int k)) (ht' : P.underlying t' = some (.int k')) (hz : z = (n : Int)) (h2 : (n : Int) ≤ k'.max) :
    Ex P σ ⟨dst, .convert t t' x, T, pos, after, g⟩ w (.int k' (n : Nat)) w := by
  subst hz
  exact jC hx ht ht' (by cases k' <;> simp [IntKind.min, IntKind.signed, IntKind.bits] <;> omega) h2
theorem CU {x y : Operand} {ats : Array TypeId} {k k' : IntKind} {m n : Int} (hx : σ.ev x = some (.int k m)) (hy : σ.ev y = some (.int k' n)) :
    Ex P σ ⟨dst, .call ⟨.builtin .min, #[x, y], ats⟩, T, pos, after, g⟩ w (.int k (if n < m then n else m)) w := fun ρ h => by
  simp [execOp, resolve, h x _ hx, h y _ hy, invoke, builtin, run_min_int2]
end
section
variable {P : Program} {N : NN} {R : kK} {σ : Env} {w : World} {ops : Array Oper} {rest : List Oper} {d : Nat} {T : TypeId} {pos : String} {after : Array Edge}
theorem AB {x : Operand} {t : TypeId} {s : ByteArray} (hd : Nat.blt d N.1 = true) (hx : σ.ev x = some (.string s)) (ht : P.underlying t = some .string)
    (h : ∀ b w', w'.heap[b]? = some (.stringIter s 0) → w.heap.size = b → Evo [] w w' → WL P N ops R rest ((d, .pointer (some ⟨b, 0, none⟩)) :: σ) w') :
    WL P N ops R (⟨some d, .range t x, T, pos, after, none⟩ :: rest) σ w := by
  refine jF (w' := w.alloc (.stringIter s 0)) hd (fun ρ ha => ?_) (h _ _ (vK w _) rfl (pJ w _))
  simp only [execOp, ha x _ hx, Sem.run_bind, run_range_string w t s ht, Result.andThen_ok, Sem.run_pure]
  rfl
theorem JJ (w : World) (b : Nat) (o : Obj) : Evo [b] w { w with heap := w.heap.setIfInBounds b o } :=
  ⟨rfl, rfl, rfl, by simp, fun k _ hx => by
    have : b ≠ k := fun e => hx (by simp [e])
    simp [Array.getElem?_setIfInBounds_ne this]⟩
theorem EZ {x : Operand} {s : ByteArray} {b p : Nat} (hd : Nat.blt d N.1 = true) (hx : σ.ev x = some (.pointer (some ⟨b, 0, none⟩))) (hb : w.heap[b]? = some (.stringIter s p)) (hp : p < s.size)
    (h : ∀ w', w'.heap[b]? = some (.stringIter s (p + (Utf8.decode s p).2)) → Evo [b] w w' → WL P N ops R rest ((d, .tuple #[.bool true, .int .i64 (p : Nat), .int .i32 ((Utf8.decode s p).1 : Nat)]) :: σ) w') :
    WL P N ops R (⟨some d, .next x true, T, pos, after, none⟩ :: rest) σ w := by
  have hlt : b < w.heap.size := eW hb
  refine jF (w' := { w with heap := w.heap.setIfInBounds b (.stringIter s (p + (Utf8.decode s p).2)) }) hd (fun ρ ha => ?_) (h _ (by simp [hlt]) (JJ w b _))
  simp only [execOp, ha x _ hx, Instr.next, getObj, setObj, Sem.run_bind, Sem.run, hb, Result.andThen, hp, if_true]
  simp [goInt, Sem.run]
theorem OP {x : Operand} {s : ByteArray} {b p : Nat} (hd : Nat.blt d N.1 = true) (hx : σ.ev x = some (.pointer (some ⟨b, 0, none⟩))) (hb : w.heap[b]? = some (.stringIter s p)) (hp : ¬ p < s.size)
    (h : WL P N ops R rest ((d, .tuple #[.bool false]) :: σ) w) :
    WL P N ops R (⟨some d, .next x true, T, pos, after, none⟩ :: rest) σ w := by
  refine jF (w' := w) hd (fun ρ ha => ?_) h
  simp only [execOp, ha x _ hx, Instr.next, getObj, setObj, Sem.run_bind, Sem.run, hb, Result.andThen, hp, if_false]
  simp [goInt, Sem.run]
end
section
variable {P : Program} {σ : Env} {w : World} {dst : Option Nat} {T : TypeId} {pos : String} {after : Array Edge} {g : Option (Nat × Bool)}
end
section
variable {P : Program} {N : NN} {R : kK} {σ : Env} {w : World}
end
def cE (s : ByteArray) (n : Nat) : Int × Nat :=
  if n < s.size ∧ ¬ ((Utf8.decode s n).1 = 65533 ∧ (Utf8.decode s n).2 = 1) then (((Utf8.decode s n).1 : Nat), (Utf8.decode s n).2) else (-1, 0)
section
variable {P : Program} {N : NN} {ops : Array Oper} {R : kK} {rest : List Oper} {σ : Env} {w w' : World} {d : Nat} {op : Op} {dst : Option Nat} {T : TypeId} {pos : String} {after : Array Edge} {g : Option (Nat × Bool)}
theorem OwnS.cut {e : TypeId} {sz n m c : Nat} {a : Option Addr} {xs : List Value} {ob : Option Nat} (h : OwnS w e sz a n c xs ob) (hm : m ≤ n) : OwnS w e sz a m c (xs.take (m * sz)) ob := by
  have hl := h.length
  have hmn : m * sz ≤ n * sz := Nat.mul_le_mul_right _ hm
  refine ⟨by rw [List.length_take]; omega, ?_⟩
  rcases h.2 with ⟨h1, h2, h3⟩ | ⟨g, cap, cur, hg, hv, hb, hn, hc, hs, ht⟩
  · cases h1; exact .inl ⟨by rw [show m = 0 by omega], by omega, h3⟩
  · cases hv
    exact .inr ⟨g, c, cur, hg, rfl, hb, by omega, hc, hs, by rw [← ht, List.take_take, Nat.min_eq_left hmn]⟩
end
end Go.W
namespace Go.W
open Go.RowKit
section
variable {P : Program} {σ : Env} {w : World}
end
section
variable {P : Program} {N : NN} {R : kK} {σ : Env} {w : World}
end
section
variable {P : Program} {N : NN} {R : kK} {σ : Env} {w : World} {l n : Nat}
end
section
variable {P : Program} {N : NN} {R : kK} {σ : Env} {w w' : World} {ops : Array Oper} {rest : List Oper} {n d : Nat} {op : Op} {T : TypeId} {pos : String} {after : Array Edge}
end
def XB (n0 : Nat) (w : World) : List Nat := (List.range w.heap.size).filter fun b => decide (n0 ≤ b)
theorem CC {n0 b : Nat} {w : World} : b ∈ XB n0 w ↔ b < w.heap.size ∧ n0 ≤ b := by simp [XB]
theorem UB {n0 : Nat} {w w' : World} (h : Below n0 w w') : Evo (XB n0 w) w w' := ⟨h.os, h.tape, h.output, h.size, fun b hb hx => h.block b (by
  by_cases h1 : n0 ≤ b
  · exact absurd (CC.2 ⟨hb, h1⟩) hx
  · omega)⟩
theorem yO {P : Program} {σ : Env} {w : World} {dst : Option Nat} {T : TypeId} {pos : String} {after : Array Edge} {g : Option (Nat × Bool)} {x y : Operand} {ats : Array TypeId} {k k' : IntKind} {m n : Int} (hx : σ.ev x = some (.int k m)) (hy : σ.ev y = some (.int k' n)) :
    Ex P σ ⟨dst, .call ⟨.builtin .max, #[x, y], ats⟩, T, pos, after, g⟩ w (.int k (if m < n then n else m)) w := fun ρ h => by
  simp [execOp, resolve, h x _ hx, h y _ hy, invoke, builtin, run_max_int2]
theorem UA {b : Nat} {cs : Array Value} {t : TypeId} {fz : Nat × Nat} {W W' : World} {row : Option Nat} (hb : W.heap[b]? = some (.cells cs t fz)) (hg : W.grownBy W' row) (hr : ∀ r, row = some r → ∃ o : Obj, W.heap[r]? = some o ∧ o.isCells = false) : W'.heap[b]? = some (.cells cs t fz) := by
  rw [hg.block b (eW hb) (fun e => by obtain ⟨o, ho, hf⟩ := hr b e.symm; rw [hb] at ho; cases ho; simp [Obj.isCells] at hf)]
  exact hb
theorem TG {X : List Nat} {w W W' : World} {row : Option Nat} (h : Evo X w W) (hg : W.grownBy W' row) (hr : ∀ r, row = some r → w.heap.size ≤ r) : Evo X w W' :=
  h.step (Evo.of_grown hg) (fun y hy => .inr (hr y (by simpa using hy)))
abbrev KV := List (ByteArray × Value)
def MapAt (w : World) (b : Nat) (kvs : KV) : Prop := ∃ es : Array MapEntry, w.heap[b]? = some (.map es es.size) ∧ es.toList.map (fun e => (e.key, e.val)) = kvs.map (fun kv => (Value.string kv.1, kv.2)) ∧ ∀ i (h : i < es.size), es[i].born = i
theorem MapAt.evo {X : List Nat} {w w' : World} {b : Nat} {kvs : KV} (h : MapAt w b kvs) (he : Evo X w w') (hx : b ∉ X) : MapAt w' b kvs := by
  obtain ⟨es, h1, h2⟩ := h
  exact ⟨es, he.blk h1 hx, h2⟩
theorem MapAt.evo0 {w w' : World} {b : Nat} {kvs : KV} (h : MapAt w b kvs) (he : Evo [] w w') : MapAt w' b kvs := h.evo he (by simp)
theorem MapAt.lt {w : World} {b : Nat} {kvs : KV} (h : MapAt w b kvs) : b < w.heap.size := by obtain ⟨es, h1, _⟩ := h; exact eW h1
theorem Lt.map {w : World} {b : Nat} {kvs : KV} (h : MapAt w b kvs) : Lt w (some b) := fun g hg => by cases hg; exact h.lt
section
variable {P : Program} {N : NN} {ops : Array Oper} {R : kK} {rest : List Oper} {σ : Env} {w w' : World} {d : Nat} {dst : Option Nat} {T : TypeId} {pos : String} {after : Array Edge} {g : Option (Nat × Bool)}
end
def IterAt (w : World) (r m n : Nat) (seen : List Nat) : Prop := w.heap[r]? = some (.mapIter (some m) n seen.toArray n)
theorem IterAt.evo {X : List Nat} {w w' : World} {r m n : Nat} {seen : List Nat} (h : IterAt w r m n seen) (he : Evo X w w') (hx : r ∉ X) : IterAt w' r m n seen := he.blk h hx
theorem IterAt.lt {w : World} {r m n : Nat} {seen : List Nat} (h : IterAt w r m n seen) : r < w.heap.size := eW h
section
variable {P : Program} {N : NN} {ops : Array Oper} {R : kK} {rest : List Oper} {σ : Env} {w w' : World} {d : Nat} {dst : Option Nat} {T : TypeId} {pos : String} {after : Array Edge} {g : Option (Nat × Bool)}
end
section
variable {P : Program} {N : NN} {R : kK} {σ : Env} {w w' : World} {dst : Option Nat} {T : TypeId} {pos : String} {after : Array Edge} {g : Option (Nat × Bool)}
end
section
variable {P : Program} {σ : Env} {w : World} {dst : Option Nat} {T : TypeId} {pos : String} {after : Array Edge} {g : Option (Nat × Bool)}
end
section
variable {P : Program} {N : NN} {R : kK} {σ : Env} {w w' : World} {ops : Array Oper} {rest : List Oper} {n d : Nat} {op : Op} {T : TypeId} {pos : String} {after : Array Edge}
end
abbrev pan (v : Value) : List PanicEntry := [{ v := v, recovered := false }]
def RetP (Φ : Value → World → Prop) (Ψ : Value → World → Prop) : Ending → World → Prop
  | .returned v, w => Φ v w
  | .panicked c, w => ∃ v, c = pan v ∧ Ψ v w
  | .outgrown, _ => False
theorem RetP.of {Φ Ψ : Value → World → Prop} {e : Ending} {w : World} (h : Ret Φ e w) : RetP Φ Ψ e w := by obtain ⟨v, rfl, h⟩ := h; exact h
section
variable {P : Program} {N : NN} {R : kK} {σ : Env} {w : World} {ops : Array Oper} {rest : List Oper} {T : TypeId} {pos : String} {after : Array Edge} {d : Nat}
theorem args_eq {σ : Env} {a : Act} {xs : Array Operand} {vs : List Value} (hag : EW σ a.eval) (hxs : xs.toList.map σ.ev = vs.map some) : xs.map a.eval = vs.toArray := by
  apply Array.ext'
  rw [Array.toList_map]
  generalize xs.toList = l at *
  clear xs
  revert vs
  induction l with
  | nil => intro vs hxs; cases vs with | nil => rfl | cons _ _ => simp at hxs
  | cons x l ih =>
    intro vs hxs
    cases vs with
    | nil => simp at hxs
    | cons v vs =>
      simp only [List.map_cons, List.cons.injEq] at hxs
      simp only [List.map_cons, hag x v hxs.1]
      exact congrArg _ (ih hxs.2)
theorem OR {dst : Option Nat} {f : FuncId} {xs : Array Operand} {ats : Array TypeId} {vs : List Value} {Φ Ψ : Value → World → Prop} (hgo : eY P f) (hxs : xs.toList.map σ.ev = vs.map some)
    (hc : Calls P f vs.toArray w (RetP Φ Ψ)) (hd : ∀ k, dst = some k → Nat.blt k N.1 = true) (hp : ∀ v w', Ψ v w' → R (.panic (pan v)) N σ w')
    (h : ∀ v w', Φ v w' → WL P N ops R rest (match dst with | some k => (k, v) :: σ | none => σ) w') :
    WL P N ops R (⟨dst, .call ⟨.value (.func f), xs, ats⟩, T, pos, after, none⟩ :: rest) σ w := fun a ha => wpList_plain rfl fun K hK => by
  have hargs := args_eq ha.agrees hxs
  obtain ⟨fn, hf, hn, hbd⟩ := hgo
  unfold Oper.wp
  have hrun : (execOp a.eval ⟨dst, .call ⟨.value (.func f), xs, ats⟩, T, pos, after, none⟩).run P w = .ok (.enter f vs.toArray) w := by
    have hn' : ¬ fn.name = "runtime.NumGoroutine" := by simpa using hn
    have hb' : ¬ fn.body = none := by intro hh; simp [hh] at hbd
    simp only [execOp, resolve, hargs]
    simp [Act.eval, Deferred.ofValue, invoke, callFunc, hf, hn', hb']
  rw [hrun]
  show Calls P f vs.toArray w _
  refine hc.mono ?_
  intro e w' he
  cases e with
  | returned v =>
    cases dst with
    | none => exact hK _ _ (h v w' he a ha)
    | some k => exact hK _ _ (h v w' he _ (ha.put (of_decide_eq_true (by simpa using hd k rfl)) v))
  | panicked c => obtain ⟨v, rfl, hΨ⟩ := he; exact ⟨N, σ, ha, hp v w' hΨ⟩
  | outgrown => exact he.elim
theorem bT {f : FuncId} {xs : Array Operand} {ats : Array TypeId} {vs : List Value} {Φ Ψ : Value → World → Prop} (hgo : eY P f) (hxs : xs.toList.map σ.ev = vs.map some)
    (hc : Calls P f vs.toArray w (RetP Φ Ψ)) (hd : Nat.blt d N.1 = true) (hp : ∀ v w', Ψ v w' → R (.panic (pan v)) N σ w') (h : ∀ v w', Φ v w' → WL P N ops R rest ((d, v) :: σ) w') :
    WL P N ops R (⟨some d, .call ⟨.value (.func f), xs, ats⟩, T, pos, after, none⟩ :: rest) σ w := OR hgo hxs hc (fun k hk => by cases hk; exact hd) hp h
theorem OO {dst : Option Nat} {x : Operand} {t : TypeId} {v : Value} (hx : σ.ev x = some (.iface t v)) (h : R (.panic (pan (.iface t v))) N σ w) : WL P N ops R (⟨dst, .panic x, T, pos, after, none⟩ :: rest) σ w :=
  fun a ha => wpList_plain rfl fun K hK => by
    unfold Oper.wp
    have hrun : (execOp a.eval ⟨dst, .panic x, T, pos, after, none⟩).run P w = .halt (.panic (.iface t v)) w := by
      simp only [execOp, ha.agrees x _ hx]
      rfl
    rw [hrun]
    exact ⟨N, σ, ha, h⟩
theorem TE {dst : Option Nat} {g : Option (Nat × Bool)} {x : Operand} {t : TypeId} {v : Value} (hx : σ.ev x = some v) (ht : ∀ w, (Instr.makeInterface t v).run P w = .ok (.iface t v) w) : Ex P σ ⟨dst, .makeInterface t x, T, pos, after, g⟩ w (.iface t v) w := fun ρ h => by
  simp [execOp, h x _ hx, ht]
abbrev dfr (f : FuncId) (cap : Array Value) : Deferred := { target := .fn (.func f) cap, args := #[] }
theorem OQ {x : Operand} {ats : Array TypeId} {f : FuncId} {cap : Array Value} (hx : σ.ev x = some (.func (.func f) #[] cap)) (h : WL P (N.1, dfr f cap :: N.2) ops R rest σ w) :
    WL P N ops R (⟨none, .defer ⟨.value x, #[], ats⟩, T, pos, after, none⟩ :: rest) σ w := fun a ha => wpList_plain rfl fun K hK => by
  unfold Oper.wp
  have hrun : (execOp a.eval ⟨none, .defer ⟨.value x, #[], ats⟩, T, pos, after, none⟩).run P w = .ok (.defer (dfr f cap)) w := by
    simp only [execOp, resolve, ha.agrees x _ hx]
    simp [Deferred.ofValue]
  rw [hrun]
  exact hK _ _ (h _ ⟨ha.1, by show dfr f cap :: a.defers = _; rw [ha.2.1], ha.2.2⟩)
end
section
variable {P : Program} {σ : Env} {w : World}
theorem bS {fn : Func} {Φ Ψ : Value → World → Prop} {N : NN} (h : oE P fn (Ret Φ) .ret N σ w) : oE P fn (RetP Φ Ψ) .ret N σ w :=
  ⟨h.1, fun a ha => by obtain ⟨v, h1, h2⟩ := h.2 a ha; exact ⟨v, h1, RetP.of h2⟩⟩
theorem TY {n : Nat} {fn : Func} {Φ Ψ : Value → World → Prop} {v : Value} (h : Ψ v w) : oE P fn (RetP Φ Ψ) (.panic (pan v)) (n, []) σ w := ⟨rfl, v, rfl, h⟩
def TZ (P : Program) (fn : Func) (E : Ending → World → Prop) : kK
  | .normal, N, σ, w => ∀ a, Fits N σ a → Leaves P fn a.tmps E N.2 .returning w
  | .ret, N, σ, w => ∀ a, Fits N σ a → Leaves P fn a.tmps E N.2 .returning w
  | .panic chain, N, σ, w => ∀ a, Fits N σ a → Leaves P fn a.tmps E N.2 (.panicking chain) w
  | .outgrown, _, _, w => E .outgrown w
  | .exit _, _, _, _ => False
  | .goto _, _, _, _ => False
theorem DF {f : FuncId} {fn : Func} {c : Code} {args : List Value} {E : Ending → World → Prop} {N : Nat}
    (hf : P.funcs[f]? = some fn) (hb : fn.body = some c) (hN : fn.ntmps = N) (hle' : Nat.ble args.length N = true)
    (h : CW P (N, []) c (TZ P fn E) (nY 0 args) w) : Calls P f args.toArray w E := by
  have hle : args.length ≤ N := Nat.le_of_ble_eq_true hle'; refine calls_of_wp_defers hf hb (wp_mono (h _ ⟨?_, rfl, ?_⟩) ?_)
  · simp [hN]; omega
  · intro t v hv
    obtain ⟨_, h2⟩ := pS args 0 t v hv; simp only [Nat.sub_zero] at h2; have hlt : t < args.length := (List.getElem?_eq_some_iff.1 h2).1
    have h3 : args[t] = v := by rw [List.getElem?_eq_getElem hlt] at h2; exact Option.some.inj h2
    simp [Array.getElem?_append, hlt, h3]
  · intro e a' w' hq
    cases e with
    | normal => obtain ⟨N', σ', hf', hk⟩ := hq; show Leaves _ _ _ _ _ _ _; rw [hf'.2.1]; exact hk a' hf'
    | ret => obtain ⟨N', σ', hf', hk⟩ := hq; show Leaves _ _ _ _ _ _ _; rw [hf'.2.1]; exact hk a' hf'
    | panic ch => obtain ⟨N', σ', hf', hk⟩ := hq; show Leaves _ _ _ _ _ _ _; rw [hf'.2.1]; exact hk a' hf'
    | outgrown => obtain ⟨_, hk⟩ := hq; exact hk
    | exit i => obtain ⟨_, _, _, hk⟩ := hq; exact hk
    | goto l => obtain ⟨_, _, _, hk⟩ := hq; exact hk
theorem IZ {fn : Func} {tmps : Array Value} {E : Ending → World → Prop} {f : FuncId} {g : Func} {cap : Array Value} {u : FrameMode} (hg : P.funcs[f]? = some g) (hn : (g.name == "runtime.NumGoroutine") = false) (hb : g.body.isNone = false) (hu : u ≠ .run)
    (h : CallsD P f cap u w fun e u' w' => match e with
      | .returned _ => Leaves P fn tmps E [] (settle u') w'
      | .panicked chain => Leaves P fn tmps E [] (raised u' chain) w'
      | .outgrown => E .outgrown w') : Leaves P fn tmps E [dfr f cap] u w := by
  refine leaves_cons hu ?_ (h.mono ?_)
  · have hn' : ¬ g.name = "runtime.NumGoroutine" := by simpa using hn
    have hb' : ¬ g.body = none := by intro hh; simp [hh] at hb
    simp [invoke, callFunc, hg, hn', hb']
  · intro e u' w' he
    cases e <;> exact he
end
section
variable {P : Program} {σ : Env} {w : World} {dst : Option Nat} {T : TypeId} {pos : String} {after : Array Edge} {g : Option (Nat × Bool)}
theorem PG (n : Nat) {t e : TypeId} {a : Option Addr} {k c : Nat} (ht : P.underlying t = some (.slice e)) : (Op.equalIn (n + 1) t (.slice a k c) (.slice none 0 0)).run P w = .ok a.isNone w := by
  cases a <;> simp [Op.equalIn, run_underlying ht]
theorem ex_eqSl {x y : Operand} {t e t' : TypeId} {a : Option Addr} {k c : Nat} (hx : σ.ev x = some (.slice a k c)) (hy : σ.ev y = some (.slice none 0 0)) (ht : P.underlying t = some (.slice e)) :
    Ex P σ ⟨dst, .binOp .eql t x y t', T, pos, after, g⟩ w (.bool a.isNone) w := fun ρ hρ => by
  have h1 : (Op.equal t (.slice a k c) (.slice none 0 0)).run P w = .ok a.isNone w := PG 9999 ht
  simp [execOp, hρ x _ hx, hρ y _ hy, eqGuard, Go.binOp, h1]
theorem yN {x : Operand} {t t' : TypeId} {k : IntKind} {n : Int} (hx : σ.ev x = some (.int k n)) (ht : P.underlying t = some (.int k)) (ht' : P.underlying t' = some .string) :
    Ex P σ ⟨dst, .convert t t' x, T, pos, after, g⟩ w (.string (Utf8.encode n)) w := fun ρ h => by
  simp [execOp, h x _ hx, convert, run_underlying ht, run_underlying ht', Conv.intToString]
theorem eK {x i : Operand} {t : TypeId} {k : IntKind} {n sz b o len c : Nat} {a : Option Addr} (hx : σ.ev x = some (.slice a len c)) (hi : σ.ev i = some (.int k (n : Nat))) (ha : a = some ⟨b, o, none⟩) (he : tT P t = some sz) (hlt : n < len) :
    Ex P σ ⟨dst, .indexAddr t x i, T, pos, after, g⟩ w (.pointer (some ⟨b, o + n * sz, none⟩)) w := by
  subst ha; exact gF hx hi he hlt
theorem gW {x lo : Operand} {t : TypeId} {s : ByteArray} {lv : Int} {l : Nat} (hx : σ.ev x = some (.string s)) (hlo : σ.ev lo = some (.int .i64 lv)) (ht : P.underlying t = some .string) (hl : lv = (l : Int)) (hlh : l ≤ s.size) :
    Ex P σ ⟨dst, .slice t x (some lo) none none, T, pos, after, g⟩ w (.string (s.extract l s.size)) w := fun ρ hρ => by
  subst hl
  have := run_slice_string_l (P := P) w t s ht .i64 (l : Int) (by omega) (by omega)
  simp only [execOp, hρ x _ hx, Option.map_some, Option.map_none, hρ lo _ hlo, Instr.sliceAt, run_underlying ht, Sem.run_bind, Result.andThen_ok, this, Int.toNat_natCast, Sem.run_pure]
theorem OA {x hi : Operand} {t : TypeId} {s : ByteArray} {hv : Int} {h : Nat} (hx : σ.ev x = some (.string s)) (hhi : σ.ev hi = some (.int .i64 hv)) (ht : P.underlying t = some .string) (hh : hv = (h : Int)) (hhc : h ≤ s.size) :
    Ex P σ ⟨dst, .slice t x none (some hi) none, T, pos, after, g⟩ w (.string (s.extract 0 h)) w := fun ρ hρ => by
  subst hh
  have := run_slice_string_h (P := P) w t s ht .i64 (h : Int) (by omega) (by omega)
  simp only [execOp, hρ x _ hx, Option.map_some, Option.map_none, hρ hi _ hhi, Instr.sliceAt, run_underlying ht, Sem.run_bind, Result.andThen_ok, this, Int.toNat_natCast, Sem.run_pure]
end
section
variable {P : Program} {σ : Env} {w : World} {dst : Option Nat} {T : TypeId} {pos : String} {after : Array Edge} {g : Option (Nat × Bool)}
theorem fR {x i : Operand} {t : TypeId} {k : IntKind} {z : Int} {n sz b o len c : Nat} {a : Option Addr} (hx : σ.ev x = some (.slice a len c)) (hi : σ.ev i = some (.int k z)) (ha : a = some ⟨b, o, none⟩) (hz : z = n) (he : tT P t = some sz) (hlt : n < len) :
    Ex P σ ⟨dst, .indexAddr t x i, T, pos, after, g⟩ w (.pointer (some ⟨b, o + n * sz, none⟩)) w := by subst ha; exact gB hx hi hz he hlt
theorem nQ {t : TypeId} {m : Nat} (hs : iT P t = some m) (w : World) : (sizeOf t).run P w = .ok m w := by
  simp only [iT] at hs
  cases hi : P.info? t with
  | none => rw [hi] at hs; cases hs
  | some i => rw [hi] at hs; simp at hs; subst hs; simp [sizeOf, typeInfo, hi, go_sem]
theorem NC {t : TypeId} {cs : Array Value} {off m : Nat} (w : World) (ht : oG P t = some true) (hs : iT P t = some m) : (part t cs off).run P w = .ok (.agg (cs.extract off (off + m))) w := by
  simp [part, nR ht, nQ hs]
theorem ME {x i : Operand} {t e : TypeId} {k : IntKind} {z : Int} {n len sz : Nat} {cs : Array Value} {v : Value} (hx : σ.ev x = some (.agg cs)) (hi : σ.ev i = some (.int k z)) (ht : P.underlying t = some (.array len e)) (hz : z = (n : Int)) (hn : n < len) (hs : iT P e = some sz)
    (hp : ∀ w, (part e cs (n * sz)).run P w = .ok v w) : Ex P σ ⟨dst, .index t x i, T, pos, after, g⟩ w v w := fun ρ h => by
  subst hz
  have hc : 0 ≤ (n : Int) ∧ (n : Int) < len := ⟨by omega, by omega⟩
  have hp' := hp w
  simp [nQ hs, go_sem] at hp'
  simp [execOp, h x _ hx, h i _ hi, Instr.index, run_underlying ht, asIntOf, hc, hn, nQ hs, go_sem]
  rw [hp']; rfl
theorem jZ {x i : Operand} {t e : TypeId} {k : IntKind} {z : Int} {n len sz b o : Nat} (hx : σ.ev x = some (.pointer (some ⟨b, o, none⟩))) (hi : σ.ev i = some (.int k z)) (ht : P.underlying t = some (.array len e)) (hz : z = (n : Int)) (hn : n < len) (hs : iT P e = some sz) :
    Ex P σ ⟨dst, .indexAddr t x i, T, pos, after, g⟩ w (.pointer (some ⟨b, o + n * sz, none⟩)) w := fun ρ h => by
  subst hz
  have hc : 0 ≤ (n : Int) ∧ (n : Int) < len := ⟨by omega, by omega⟩
  simp [execOp, h x _ hx, h i _ hi, Instr.indexAt, run_underlying ht, Instr.sureAddr, asIntOf, hc, hn, nQ hs, Addr.add, go_sem]
theorem sB {t e : TypeId} {len sz : Nat} {parts : Array (Nat × Operand)} {vs : List (Nat × Value)} {zero cells : Array Value} (ht : P.underlying t = some (.array len e)) (hz : oJ P t = some zero) (hs : iT P e = some sz)
    (hp : parts.toList.map (fun p => (p.1, σ.ev p.2)) = vs.map (fun q => (q.1, some q.2))) (hf : Instr.fill (fun i => some (i * sz, sz)) zero vs = some cells) : Ex P σ ⟨dst, .build t parts, T, pos, after, g⟩ w (.agg cells) w := fun ρ ha => by
  obtain ⟨z, hz1, hz2⟩ := Option.map_eq_some_iff.1 hz
  obtain ⟨i, hi, hz'⟩ := Option.bind_eq_some_iff.1 hz1
  have hparts : (parts.map fun p => (p.1, ρ p.2)).toList = vs := by
    rw [Array.toList_map]
    clear hf
    revert hp
    generalize parts.toList = l
    intro hp
    induction l generalizing vs with
    | nil => cases vs with | nil => rfl | cons _ _ => simp at hp
    | cons p l ih =>
      cases vs with
      | nil => simp at hp
      | cons q vs =>
        simp only [List.map_cons, List.cons.injEq, Prod.mk.injEq] at hp
        obtain ⟨⟨h1, h2⟩, h3⟩ := hp
        rw [List.map_cons, ih h3, h1, ha _ _ h2]
  have hzero : (zeroValue t).run P w = .ok z w := by simp [zeroValue, typeInfo, hi, hz', go_sem]
  subst hz2
  rw [Array.toList_map] at hparts
  simp only [execOp, Instr.build, hzero, Sem.run_bind, Result.andThen_ok, run_underlying ht, nQ hs, Array.toList_map, hparts, hf, Sem.run_pure]
theorem CQ {x lo : Operand} {t : TypeId} {s r : ByteArray} {lv : Int} {l : Nat} (hx : σ.ev x = some (.string s)) (hlo : σ.ev lo = some (.int .i64 lv)) (ht : P.underlying t = some .string) (hl : lv = (l : Int)) (hlh : l ≤ s.size) (hr : s.extract l s.size = r) :
    Ex P σ ⟨dst, .slice t x (some lo) none none, T, pos, after, g⟩ w (.string r) w := by subst hr; exact gW hx hlo ht hl hlh
theorem rA {x lo hi : Operand} {t : TypeId} {s r : ByteArray} {lv hv : Int} {l h : Nat} (hx : σ.ev x = some (.string s)) (hlo : σ.ev lo = some (.int .i64 lv)) (hhi : σ.ev hi = some (.int .i64 hv)) (ht : P.underlying t = some .string) (hl : lv = (l : Int)) (hh : hv = (h : Int)) (hlh : l ≤ h) (hhc : h ≤ s.size) (hr : s.extract l h = r) :
    Ex P σ ⟨dst, .slice t x (some lo) (some hi) none, T, pos, after, g⟩ w (.string r) w := by subst hr; exact CR hx hlo hhi ht hl hh hlh hhc
theorem fK {x i : Operand} {t : TypeId} {k : IntKind} {s : ByteArray} {z : Int} {n m : Nat} (hx : σ.ev x = some (.string s)) (hi : σ.ev i = some (.int k z)) (ht : P.underlying t = some .string) (hz : z = (n : Int)) (hn : n < s.size) (hr : sb s n = m) :
    Ex P σ ⟨dst, .index t x i, T, pos, after, g⟩ w (.int .u8 (m : Nat)) w := by subst hr; exact fL hx hi ht hz hn
theorem CV {x y : Operand} {t t' : TypeId} {m n r : Int} (hx : σ.ev x = some (.int .i64 m)) (hy : σ.ev y = some (.int .i64 n)) (hr : m + n = r) (h1 : -9223372036854775808 ≤ r) (h2 : r ≤ 9223372036854775807) :
    Ex P σ ⟨dst, .binOp .add t x y t', T, pos, after, g⟩ w (.int .i64 r) w := by subst hr; exact bC hx hy h1 h2
end
section
variable {P : Program} {N : NN} {R : kK} {σ : Env} {w : World} {ops : Array Oper} {rest : List Oper} {T : TypeId} {pos : String} {after : Array Edge}
theorem kR {t U : TypeId} {x y : Operand} {b : Nat} {f1 f2 f3 f4 v0 v1 g1 g2 g3 g4 v6 v7 : Value} (hx : σ.ev x = some (.pointer (some ⟨b, 2, none⟩))) (hy : σ.ev y = some (.agg #[f1, f2, f3, f4])) (hs : iT P t = some 4)
    (h1 : AllOne [f1, f2, f3, f4]) (hb : w.heap[b]? = some (.cells #[v0, v1, g1, g2, g3, g4, v6, v7] U (0, 0)))
    (h : ∀ w', w'.heap[b]? = some (.cells #[v0, v1, f1, f2, f3, f4, v6, v7] U (0, 0)) → Evo [b] w w' → WL P N ops R rest σ w') :
    WL P N ops R (⟨none, .store t x y, T, pos, after, none⟩ :: rest) σ w := by
  refine mL (v := .agg #[f1, f2, f3, f4]) hx hy hs rfl (fun u hu => h1.mem u hu) hb (by show 2 + 4 ≤ 8; omega) ?_
  intro w' hb' he
  exact h w' hb' he
end
end Go.W
namespace Go.W
section
variable {P : Program} {σ : Env} {w : World} {dst : Option Nat} {T : TypeId} {pos : String} {after : Array Edge} {g : Option (Nat × Bool)}
theorem fI {op : BinOp} {xt yt : TypeId} {x y : Operand} {a b r : Value} (hx : σ.ev x = some a) (hy : σ.ev y = some b) (h : ∀ w, (do eqGuard op xt x y a b; binOp op xt a b : Sem Value).run P w = .ok r w) : Ex P σ ⟨dst, .binOp op xt x y yt, T, pos, after, g⟩ w r w := fun ρ ha => by
  have h1 := h w
  simp only [Sem.run_bind] at h1
  simp only [execOp, ha _ _ hx, ha _ _ hy, Sem.run_bind, h1, Result.andThen_ok, Sem.run_pure]
theorem xK {b o : Nat} {vs : List Value} (h : ∀ j v, vs[j]? = some v → w.cell? ⟨b, o + j, none⟩ = some v) : (loadCells ⟨b, o, none⟩ vs.length).run P w = .ok vs.toArray w := by
  have := lU (P := P) (w := w) b o vs.length 0 #[] vs rfl (fun j v hj => by rw [Nat.zero_add]; exact h j v hj)
  simpa [loadCells] using this
def iF (l : List Nat) : List Value := l.map fun c => Value.int .u8 (c : Nat)
theorem sL : ∀ (l : List Nat) (s : ByteArray), l.foldl (fun r (n : Nat) => r.push (UInt8.ofNat ((n : Int)).toNat)) s = s ++ bstr l
  | [], s => by
    show s = s ++ ⟨#[]⟩
    apply ByteArray.ext; simp
  | c :: l, s => by
    rw [List.foldl_cons, sL l]
    apply ByteArray.ext
    simp [bstr, ByteArray.data_push]
end
theorem rE {l : List Nat} (h : ∀ b, b ∈ l → b < 256) : Lib.byteCells (bstr l).data.toList = iF l := by
  simp only [Lib.byteCells, bstr, iF, List.map_map]
  refine List.map_congr_left fun b hb => ?_
  have := h b hb
  simp [Nat.mod_eq_of_lt this]
theorem Src.strB {P : Program} {w : World} (s : ByteArray) : Src P w 1 (.string s) s.size (Lib.byteCells s.data.toList) :=
  ⟨fun _ => by simp [Builtin.lenOf], fun w2 _ => Lib.run_firstCells_string (P := P) (w := w2) 1 s, by rw [Lib.byteCells_length, Nat.mul_one]; rfl, fun u hu => by simp only [Lib.byteCells, List.mem_map] at hu; obtain ⟨b, _, rfl⟩ := hu; rfl⟩
theorem Src.bstr {P : Program} {w : World} {l : List Nat} (h : ∀ b, b ∈ l → b < 256) : Src P w 1 (.string (bstr l)) l.length (iF l) := by
  have hsz : (Go.W.bstr l).size = l.length := by simp [Go.W.bstr, ByteArray.size]
  have h1 := Src.strB (P := P) (w := w) (Go.W.bstr l)
  rw [rE h, hsz] at h1
  exact h1
end Go.W
namespace Go.Proofs.YtljadkcojnlioaaGreatDoor
open Go.RowKit Go.W
abbrev iv (n : Int) : Value := .int .i64 n
abbrev sv (s : ByteArray) : Value := .string s
inductive Rx where
  | mk (kind r : Int) (ranges : List (Int × Int)) (min max : Int) (lazy : Bool) (cap : Int) (name : ByteArray) (kids : List Rx)
def Rx.kind : Rx → Int | .mk k _ _ _ _ _ _ _ _ => k
def Rx.r : Rx → Int | .mk _ r _ _ _ _ _ _ _ => r
def Rx.ranges : Rx → List (Int × Int) | .mk _ _ l _ _ _ _ _ _ => l
def Rx.min : Rx → Int | .mk _ _ _ m _ _ _ _ _ => m
def Rx.max : Rx → Int | .mk _ _ _ _ m _ _ _ _ => m
def Rx.lazy : Rx → Bool | .mk _ _ _ _ _ z _ _ _ => z
def Rx.cap : Rx → Int | .mk _ _ _ _ _ _ c _ _ => c
def Rx.name : Rx → ByteArray | .mk _ _ _ _ _ _ _ n _ => n
def Rx.kids : Rx → List Rx | .mk _ _ _ _ _ _ _ _ l => l
def RRg : Rel (Int × Int) := fun _ _ vs g => vs = [.int .i32 g.1, .int .i32 g.2]
theorem PK {α : Type} {sz : Nat} {R : Rel α} {X : List Nat} {w : World} : RSl sz R X w (.slice none 0 0) [] := ⟨none, 0, rfl, by simp, fun k hk => by simp at hk⟩
theorem RRg.pers : RRg.Pers := fun _ _ _ _ _ _ h => h
theorem RRg.fresh : RRg.Fresh := fun _ _ _ _ _ _ h => h
def RRx : Nat → Rel Rx
  | 0 => fun _ _ _ _ => False
  | n + 1 => fun X w vs x => ∃ vr vk, vs = [iv x.kind, .int .i32 x.r, vr, iv x.min, iv x.max, .bool x.lazy, iv x.cap, .string x.name, vk] ∧ RSl 2 RRg X w vr x.ranges ∧ RSl 9 (RRx n) X w vk x.kids ∧
      x.ranges.length ≤ 140737488351232 ∧ x.name.size ≤ 140737488351232 ∧ x.kids.length ≤ 140737488351232
theorem RRx.pers : ∀ n, (RRx n).Pers
  | 0 => fun _ _ _ _ _ _ h => h.elim
  | n + 1 => fun X w w' vs x he ⟨vr, vk, h1, h2, h3, h4⟩ => ⟨vr, vk, h1, RSl.evo RRg.pers he h2, RSl.evo (RRx.pers n) he h3, h4⟩
theorem RRx.fresh : ∀ n, (RRx n).Fresh
  | 0 => fun _ _ _ _ _ _ h => h.elim
  | n + 1 => fun X Y w vs x hy ⟨vr, vk, h1, h2, h3, h4⟩ => ⟨vr, vk, h1, RSl.fresh (by decide) RRg.fresh hy h2, RSl.fresh (by decide) (RRx.fresh n) hy h3, h4⟩
theorem RRx.step {n : Nat} {X Y : List Nat} {w w' : World} {vs : List Value} {x : Rx} (h : RRx n X w vs x) (he : Evo X w w') (hy : ∀ y, y ∈ Y → y ∈ X ∨ w.heap.size ≤ y) (hb : ∀ b, b ∈ X → b < w.heap.size) : RRx n Y w' vs x := by
  have h1 : RRx n (Y ++ X) w vs x := RRx.fresh n X (Y ++ X) w vs x (fun y hy' => by rcases List.mem_append.1 hy' with h | h; exact hy y h; exact .inl h) h
  have h2 := RRx.pers n _ _ _ _ _ (he.mono (fun b hb => by simp [hb])) h1
  exact RRx.fresh n (Y ++ X) Y w' vs x (fun y hy' => .inl (by simp [hy'])) h2
abbrev St := Nat × List ByteArray
def iS (c : Nat) : Prop := (48 ≤ c ∧ c ≤ 57) ∨ (65 ≤ c ∧ c ≤ 90) ∨ (97 ≤ c ∧ c ≤ 122) ∨ c = 95
instance (c : Nat) : Decidable (iS c) := by unfold iS; infer_instance
def zJ (s : ByteArray) : Prop := ∀ j, j < s.size → iS (sb s j)
def nP (cap : Int) (nm : ByteArray) (ns : List ByteArray) : Prop := cap = (ns.length : Int) + 1 ∧ cap ≤ 100 ∧ zJ nm ∧ (nm = ByteArray.mk #[] ∨ nm ∉ ns)
def RangesOk (l : List (Int × Int)) : Prop :=
  (∀ i (h : i < l.length), 0 ≤ l[i].1 ∧ l[i].1 ≤ l[i].2 ∧ l[i].2 ≤ 1114111 ∧ ∀ j (hj : j < l.length), i = j + 1 → l[j].2 + 1 < l[i].1) ∧ ∀ h : l.length = 1, l[0].1 ≠ l[0].2
def rQ (k : Int) : Prop := ¬ (k = 4 ∨ k = 5 ∨ k = 6 ∨ k = 7)
structure NodeP (x : Rx) : Prop where
  kind1 : 1 ≤ x.kind
  kind2 : x.kind ≤ 13
  zr : x.kind = 2 ∨ x.r = 0
  zg : x.kind = 3 ∨ x.ranges = []
  zm : x.kind = 6 ∨ (x.min = 0 ∧ x.max = 0 ∧ x.lazy = false)
  zc : x.kind = 7 ∨ (x.cap = 0 ∧ x.name = ByteArray.mk #[])
  lit : x.kind = 2 → 0 ≤ x.r ∧ x.r ≤ 1114111
  cls : x.kind = 3 → RangesOk x.ranges
  two : x.kind = 4 ∨ x.kind = 5 → 2 ≤ x.kids.length
  rep : x.kind = 6 → 0 ≤ x.min ∧ x.min ≤ 1000 ∧ (x.max = -1 ∨ (x.min ≤ x.max ∧ x.max ≤ 1000)) ∧ x.kids.length = 1
  grp : x.kind = 7 → x.kids.length = 1
  leaf : rQ x.kind → x.kids = []
structure NodeF (x : Rx) : Prop where
  kind1 : 1 ≤ x.kind
  kind2 : x.kind ≤ 13
  zr : x.kind = 2 ∨ x.r = 0
  zg : x.kind = 3 ∨ (x.ranges.length : Int) = 0
  zm1 : x.kind = 6 ∨ x.min = 0
  zm2 : x.kind = 6 ∨ x.max = 0
  zl : x.kind = 6 ∨ x.lazy = false
  zc : x.kind = 7 ∨ x.cap = 0
  zn : x.kind = 7 ∨ x.name = ByteArray.mk #[]
  lit1 : x.kind = 2 → 0 ≤ x.r
  lit2 : x.kind = 2 → x.r ≤ 1114111
  cls : x.kind = 3 → RangesOk x.ranges
  two : x.kind = 4 ∨ x.kind = 5 → 2 ≤ (x.kids.length : Int)
  rep1 : x.kind = 6 → 0 ≤ x.min
  rep2 : x.kind = 6 → x.min ≤ 1000
  rep3 : x.kind = 6 → x.max = -1 ∨ (x.min ≤ x.max ∧ x.max ≤ 1000)
  rep4 : x.kind = 6 → (x.kids.length : Int) = 1
  grp : x.kind = 7 → (x.kids.length : Int) = 1
  leaf : x.kind = 4 ∨ x.kind = 5 ∨ x.kind = 6 ∨ x.kind = 7 ∨ (x.kids.length : Int) = 0
theorem eB (x : Rx) : NodeP x ↔ NodeF x := by
  constructor
  · intro h
    refine ⟨h.kind1, h.kind2, h.zr, ?_, ?_, ?_, ?_, ?_, ?_, fun k => (h.lit k).1, fun k => (h.lit k).2, h.cls, fun k => by have := h.two k; omega, fun k => (h.rep k).1, fun k => (h.rep k).2.1, fun k => (h.rep k).2.2.1, fun k => by have := (h.rep k).2.2.2; omega, fun k => by have := h.grp k; omega, ?_⟩
    · rcases h.zg with h | h; exact .inl h; right; rw [h]; rfl
    · rcases h.zm with h | h; exact .inl h; exact .inr h.1
    · rcases h.zm with h | h; exact .inl h; exact .inr h.2.1
    · rcases h.zm with h | h; exact .inl h; exact .inr h.2.2
    · rcases h.zc with h | h; exact .inl h; exact .inr h.1
    · rcases h.zc with h | h; exact .inl h; exact .inr h.2
    · by_cases hk : rQ x.kind
      · have := h.leaf hk; right; right; right; right; rw [this]; rfl
      · unfold rQ at hk; omega
  · intro h
    refine ⟨h.kind1, h.kind2, h.zr, ?_, ?_, ?_, fun k => ⟨h.lit1 k, h.lit2 k⟩, h.cls, fun k => by have := h.two k; omega, fun k => ⟨h.rep1 k, h.rep2 k, h.rep3 k, by have := h.rep4 k; omega⟩, fun k => by have := h.grp k; omega, fun k => ?_⟩
    · rcases h.zg with h | h; exact .inl h; exact .inr (List.length_eq_zero_iff.1 (by omega))
    · by_cases hk : x.kind = 6
      · exact .inl hk
      · exact .inr ⟨h.zm1.resolve_left hk, h.zm2.resolve_left hk, h.zl.resolve_left hk⟩
    · by_cases hk : x.kind = 7
      · exact .inl hk
      · exact .inr ⟨h.zc.resolve_left hk, h.zn.resolve_left hk⟩
    · have := h.leaf
      unfold rQ at k
      exact List.length_eq_zero_iff.1 (by omega)
theorem nvx {x : Rx} {Q E R : Prop} (h : NodeF x → False) (he : E) : ∃ b, Value.bool false = .bool b ∧ (b = true ↔ NodeP x ∧ Q) ∧ E ∧ (b = true → R) := ⟨false, rfl, ⟨fun h => (by cases h), fun hh => (h ((eB x).1 hh.1)).elim⟩, he, fun h => by cases h⟩
def Brk (a k : Int) : Prop := (k = 5 ∧ a = 5) ∨ (k = 4 ∧ (a = 5 ∨ a = 4 ∨ a = 1)) ∨ (k = 6 ∧ (a = 5 ∨ a = 4 ∨ a = 1 ∨ a = 6))
instance (a k : Int) : Decidable (Brk a k) := by unfold Brk; infer_instance
open Classical in
mutual
noncomputable def Rx.fine : Rx → Int → St → Option St
  | .mk k r rs mn mx lz cp nm ks, b, st =>
    if st.1 + 1 ≤ 8194 ∧ (if k = 7 then b + 1 else b) ≤ 250 ∧ NodeP (.mk k r rs mn mx lz cp nm ks) ∧ (k = 7 → nP cp nm st.2) then
      eI ks k (if k = 7 then b + 1 else b) (st.1 + 1, if k = 7 then st.2 ++ [nm] else st.2)
    else none
noncomputable def eI : List Rx → Int → Int → St → Option St
  | [], _, _, st => some st
  | x :: xs, k, b, st => match x.fine (b + if Brk x.kind k then 1 else 0) st with
    | none => none
    | some st' => eI xs k b st'
end
open Classical in
theorem Rx.fine_eq (x : Rx) (b : Int) (st : St) : x.fine b st = if st.1 + 1 ≤ 8194 ∧ (if x.kind = 7 then b + 1 else b) ≤ 250 ∧ NodeP x ∧ (x.kind = 7 → nP x.cap x.name st.2) then
      eI x.kids x.kind (if x.kind = 7 then b + 1 else b) (st.1 + 1, if x.kind = 7 then st.2 ++ [x.name] else st.2) else none := by
  cases x; rw [Rx.fine]; rfl
theorem oP {l : List Rx} {j : Nat} (hj : j < l.length) (k b : Int) (st : St) : eI (l.drop j) k b st = (match l[j].fine (b + if Brk l[j].kind k then 1 else 0) st with | none => none | some st' => eI (l.drop (j + 1)) k b st') := by
  rw [List.drop_eq_getElem_cons hj, eI]
theorem CP {l : List Rx} {j : Nat} (hj : ¬ j < l.length) (k b : Int) (st : St) : eI (l.drop j) k b st = some st := by
  rw [List.drop_eq_nil_of_le (by omega), eI]
theorem mA {x : Rx} {b : Int} {st : St} (h : st.1 + 1 ≤ 8194 ∧ (if x.kind = 7 then b + 1 else b) ≤ 250 ∧ NodeP x ∧ (x.kind = 7 → nP x.cap x.name st.2)) :
    x.fine b st = eI x.kids x.kind (if x.kind = 7 then b + 1 else b) (st.1 + 1, if x.kind = 7 then st.2 ++ [x.name] else st.2) := by rw [Rx.fine_eq, if_pos h]
theorem tQ {x : Rx} {b : Int} {st : St} (h : ¬ (st.1 + 1 ≤ 8194 ∧ (if x.kind = 7 then b + 1 else b) ≤ 250 ∧ NodeP x ∧ (x.kind = 7 → nP x.cap x.name st.2))) : x.fine b st = none := by rw [Rx.fine_eq, if_neg h]
def Rx.Ok (x : Rx) : Prop := ∃ st, x.fine 0 (0, []) = some st
structure JAt (w : World) (T : TypeId) (jb : Nat) (st : St) (a : Option Addr) (c : Nat) (ob : Option Nat) : Prop where
  blk : w.heap[jb]? = some (.cells #[iv (st.1 : Nat), .slice a st.2.length c] T (0, 0))
  own : OwnS w 9 1 a st.2.length c (st.2.map sv) ob
  ne : ∀ g, ob = some g → g ≠ jb
theorem fM {w : World} {o p p' : Option Nat} (h : Apart o p) (hl : Lt w o) (hp : p' = p ∨ ∃ g, p' = some g ∧ w.heap.size ≤ g) : Apart o p' := fun g h1 h2 => by
  rcases hp with rfl | ⟨g', h3, h4⟩
  · exact h g h1 h2
  · rw [h2] at h3; cases h3; have := hl g h1; omega
theorem dM {w w1 : World} {p p' : Option Nat} (h : Ge w p) (hw : w.heap.size ≤ w1.heap.size) (hp : p' = p ∨ ∃ g, p' = some g ∧ w1.heap.size ≤ g) : Ge w p' := fun g hg => by
  rcases hp with rfl | ⟨g', h3, h4⟩
  · exact h g hg
  · rw [hg] at h3; cases h3; omega
end Go.Proofs.YtljadkcojnlioaaGreatDoor
namespace Go.Proofs.YtljadkcojnlioaaGreatDoor
open Go.RowKit Go.W
attribute [local irreducible] Decidable.decide
theorem cF : oG Tryz.prog 21 = some false := by kernel_rfl
theorem kQ : oG Tryz.prog 22 = some false := by kernel_rfl
theorem kD : oG Tryz.prog 56 = some true := by kernel_rfl
theorem cJ : oG Tryz.prog 9 = some false := by kernel_rfl
theorem sP : HD Tryz.prog 22 22 = some (9, 1, 16) := by kernel_rfl
theorem fE : tT Tryz.prog 24 = some 2 := by kernel_rfl
theorem nB : tT Tryz.prog 22 = some 1 := by kernel_rfl
theorem gJ : gA Tryz.prog 56 0 = some 0 := by kernel_rfl
theorem fG : gA Tryz.prog 56 1 = some 1 := by kernel_rfl
theorem lB : gA Tryz.prog 102 1 = some 1 := by kernel_rfl
theorem nM : eY Tryz.prog 125 := ⟨_, Tryz.func125, by kernel_rfl, by kernel_rfl⟩
theorem vV : iT Tryz.prog 22 = some 1 := by kernel_rfl
theorem fY : iT Tryz.prog 56 = some 2 := by kernel_rfl
theorem uC : sS Tryz.prog 22 = some (9, 1) := by kernel_rfl
theorem mZ : oJ Tryz.prog 56 = some #[.int .i32 0, .int .i32 0] := by kernel_rfl
theorem QR {w : World} {e : TypeId} {a : Option Addr} {n c : Nat} {ys : List ByteArray} {ob : Option Nat} (h : OwnS w e 1 a n c (ys.map sv) ob) (h0 : 0 < n) : ∃ g, a = some ⟨g, 0, none⟩ ∧ ∀ k (hk : k < ys.length), w.cell? ⟨g, 0 + k * 1, none⟩ = some (sv ys[k]) := by
  obtain ⟨g, hg, ha, hc⟩ := h.cells h0
  refine ⟨g, ha, fun k hk => ?_⟩
  rw [Nat.mul_one]
  exact hc k _ (by simp [hk])
def RangesTo (l : List (Int × Int)) (n : Nat) : Prop := ∀ i (h : i < l.length), i < n → 0 ≤ l[i].1 ∧ l[i].1 ≤ l[i].2 ∧ l[i].2 ≤ 1114111 ∧ ∀ j (hj : j < l.length), i = j + 1 → l[j].2 + 1 < l[i].1
theorem RangesTo.succ {l : List (Int × Int)} {n : Nat} (h : RangesTo l n) (hn : n < l.length) (h1 : 0 ≤ l[n].1) (h2 : l[n].1 ≤ l[n].2) (h3 : l[n].2 ≤ 1114111) (h4 : ∀ j (hj : j < l.length), n = j + 1 → l[j].2 + 1 < l[n].1) : RangesTo l (n + 1) := fun i hi hin => by
  by_cases e : i = n
  · subst e; exact ⟨h1, h2, h3, h4⟩
  · exact h i hi (by omega)
theorem RangesTo.ok {l : List (Int × Int)} {n : Nat} (h : RangesTo l n) (hn : l.length ≤ n) (h1 : ∀ h : l.length = 1, l[0].1 ≠ l[0].2) : RangesOk l := ⟨fun i hi => h i hi (by omega), h1⟩
theorem wL {w : World} (c : Nat) : Calls Tryz.prog 125 #[.int .u8 (c : Nat)] w (Ret fun v w' => v = .bool (decide (iS c)) ∧ Evo [] w w') := by
  refine bJ (N := 29) Tryz.func125 rfl rfl rfl ?_; refine aE (aB (aM (aC (aA (aE (aB (aG (aF (gC rfl rfl) ?_)))))))); refine aG (aV (t := 5) rfl (fun hs5 => ?_) (fun hs5 => ?_))
  ·refine aQ (aG (aQ (aF (gY rfl rfl) ?_))); refine bH (aG (aV (t := 9) rfl (fun hs9 => ?_) (fun hs9 => ?_)))
   ·refine aH (aH (aH (fO ?_))); refine fO ?_; refine aH (bH (aG (aH (aH (aH (fO ?_)))))); refine fO ?_; refine aH (bH (aG (aH (aH (bH (aM (aC (aA (aO (br1 ?_)))))))))); refine ⟨congrArg Value.bool (Bool.eq_iff_iff.2 ?_), (Evo.refl [] w)⟩
    simp only [decide_eq_true_eq, Bool.false_eq_true, Bool.true_eq_false, true_iff, false_iff, eq_self, iff_true]; unfold iS; omega
   refine aQ (aG (aQ (aF (gC rfl rfl) ?_))); refine aQ (aG (aV (t := 12) rfl (fun hs12 => ?_) (fun hs12 => ?_)))
   ·refine aQ (aG (aQ (aF (gY rfl rfl) ?_))); refine aQ (bH (aR (aG (aV (t := 17) rfl (fun hs17 => ?_) (fun hs17 => ?_)))))
    ·refine aH (aH (aH (fO ?_))); refine fO ?_; refine aH (bH (aG (aH (aH (bH (aM (aC (aA (aO (br1 ?_)))))))))); refine ⟨congrArg Value.bool (Bool.eq_iff_iff.2 ?_), (Evo.refl [] w)⟩
     simp only [decide_eq_true_eq, Bool.false_eq_true, Bool.true_eq_false, true_iff, false_iff, eq_self, iff_true]; unfold iS; omega
    refine aQ (aG (aQ (aF (gC rfl rfl) ?_))); refine aQ (aG (aV (t := 20) rfl (fun hs20 => ?_) (fun hs20 => ?_)))
    ·refine aQ (aG (aQ (aF (gY rfl rfl) ?_))); refine aQ (bH (aR (aG (aV (t := 25) rfl (fun hs25 => ?_) (fun hs25 => ?_)))))
     ·refine aH (aH (bH (aM (aC (aA (aO (br1 ?_))))))); refine ⟨congrArg Value.bool (Bool.eq_iff_iff.2 ?_), (Evo.refl [] w)⟩
      simp only [decide_eq_true_eq, Bool.false_eq_true, Bool.true_eq_false, true_iff, false_iff, eq_self, iff_true]; unfold iS; omega
     refine aQ (aG (aQ (aF (bD rfl rfl) ?_))); refine aR (aM (aC (aA (aO (br1 ?_))))); refine ⟨congrArg Value.bool (Bool.eq_iff_iff.2 ?_), (Evo.refl [] w)⟩
     simp only [decide_eq_true_eq, Bool.false_eq_true, Bool.true_eq_false, true_iff, false_iff, eq_self, iff_true]; unfold iS; omega
    refine aH (aH (aQ (aR (aR (aG (aQ (aG (aQ (aF (bD rfl rfl) ?_))))))))); refine aR (aM (aC (aA (aO (br1 ?_))))); refine ⟨congrArg Value.bool (Bool.eq_iff_iff.2 ?_), (Evo.refl [] w)⟩
    simp only [decide_eq_true_eq, Bool.false_eq_true, Bool.true_eq_false, true_iff, false_iff, eq_self, iff_true]; unfold iS; omega
   refine aH (aH (aQ (aR (aR (aG (aQ (aG (aQ (aF (gC rfl rfl) ?_))))))))); refine aQ (aG (aV (t := 20) rfl (fun hs20 => ?_) (fun hs20 => ?_)))
   ·refine aQ (aG (aQ (aF (gY rfl rfl) ?_))); refine aQ (bH (aR (aG (aV (t := 25) rfl (fun hs25 => ?_) (fun hs25 => ?_)))))
    ·refine aH (aH (bH (aM (aC (aA (aO (br1 ?_))))))); refine ⟨congrArg Value.bool (Bool.eq_iff_iff.2 ?_), (Evo.refl [] w)⟩
     simp only [decide_eq_true_eq, Bool.false_eq_true, Bool.true_eq_false, true_iff, false_iff, eq_self, iff_true]; unfold iS; omega
    refine aQ (aG (aQ (aF (bD rfl rfl) ?_))); refine aR (aM (aC (aA (aO (br1 ?_))))); refine ⟨congrArg Value.bool (Bool.eq_iff_iff.2 ?_), (Evo.refl [] w)⟩
    simp only [decide_eq_true_eq, Bool.false_eq_true, Bool.true_eq_false, true_iff, false_iff, eq_self, iff_true]; unfold iS; omega
   refine aH (aH (aQ (aR (aR (aG (aQ (aG (aQ (aF (bD rfl rfl) ?_))))))))); refine aR (aM (aC (aA (aO (br1 ?_))))); refine ⟨congrArg Value.bool (Bool.eq_iff_iff.2 ?_), (Evo.refl [] w)⟩
   simp only [decide_eq_true_eq, Bool.false_eq_true, Bool.true_eq_false, true_iff, false_iff, eq_self, iff_true]; unfold iS; omega
  refine aH (aH (aR (aG (aQ (aG (aQ (aF (gC rfl rfl) ?_))))))); refine aQ (aG (aV (t := 12) rfl (fun hs12 => ?_) (fun hs12 => ?_)))
  ·refine aQ (aG (aQ (aF (gY rfl rfl) ?_))); refine aQ (bH (aR (aG (aV (t := 17) rfl (fun hs17 => ?_) (fun hs17 => ?_)))))
   ·refine aH (aH (aH (fO ?_))); refine fO ?_; refine aH (bH (aG (aH (aH (bH (aM (aC (aA (aO (br1 ?_)))))))))); refine ⟨congrArg Value.bool (Bool.eq_iff_iff.2 ?_), (Evo.refl [] w)⟩
    simp only [decide_eq_true_eq, Bool.false_eq_true, Bool.true_eq_false, true_iff, false_iff, eq_self, iff_true]; unfold iS; omega
   refine aQ (aG (aQ (aF (gC rfl rfl) ?_))); refine aQ (aG (aV (t := 20) rfl (fun hs20 => ?_) (fun hs20 => ?_)))
   ·refine aQ (aG (aQ (aF (gY rfl rfl) ?_))); refine aQ (bH (aR (aG (aV (t := 25) rfl (fun hs25 => ?_) (fun hs25 => ?_)))))
    ·refine aH (aH (bH (aM (aC (aA (aO (br1 ?_))))))); refine ⟨congrArg Value.bool (Bool.eq_iff_iff.2 ?_), (Evo.refl [] w)⟩
     simp only [decide_eq_true_eq, Bool.false_eq_true, Bool.true_eq_false, true_iff, false_iff, eq_self, iff_true]; unfold iS; omega
    refine aQ (aG (aQ (aF (bD rfl rfl) ?_))); refine aR (aM (aC (aA (aO (br1 ?_))))); refine ⟨congrArg Value.bool (Bool.eq_iff_iff.2 ?_), (Evo.refl [] w)⟩
    simp only [decide_eq_true_eq, Bool.false_eq_true, Bool.true_eq_false, true_iff, false_iff, eq_self, iff_true]; unfold iS; omega
   refine aH (aH (aQ (aR (aR (aG (aQ (aG (aQ (aF (bD rfl rfl) ?_))))))))); refine aR (aM (aC (aA (aO (br1 ?_))))); refine ⟨congrArg Value.bool (Bool.eq_iff_iff.2 ?_), (Evo.refl [] w)⟩
   simp only [decide_eq_true_eq, Bool.false_eq_true, Bool.true_eq_false, true_iff, false_iff, eq_self, iff_true]; unfold iS; omega
  refine aH (aH (aQ (aR (aR (aG (aQ (aG (aQ (aF (gC rfl rfl) ?_))))))))); refine aQ (aG (aV (t := 20) rfl (fun hs20 => ?_) (fun hs20 => ?_)))
  ·refine aQ (aG (aQ (aF (gY rfl rfl) ?_))); refine aQ (bH (aR (aG (aV (t := 25) rfl (fun hs25 => ?_) (fun hs25 => ?_)))))
   ·refine aH (aH (bH (aM (aC (aA (aO (br1 ?_))))))); refine ⟨congrArg Value.bool (Bool.eq_iff_iff.2 ?_), (Evo.refl [] w)⟩
    simp only [decide_eq_true_eq, Bool.false_eq_true, Bool.true_eq_false, true_iff, false_iff, eq_self, iff_true]; unfold iS; omega
   refine aQ (aG (aQ (aF (bD rfl rfl) ?_))); refine aR (aM (aC (aA (aO (br1 ?_))))); refine ⟨congrArg Value.bool (Bool.eq_iff_iff.2 ?_), (Evo.refl [] w)⟩
   simp only [decide_eq_true_eq, Bool.false_eq_true, Bool.true_eq_false, true_iff, false_iff, eq_self, iff_true]; unfold iS; omega
  refine aH (aH (aQ (aR (aR (aG (aQ (aG (aQ (aF (bD rfl rfl) ?_))))))))); refine aR (aM (aC (aA (aO (br1 ?_))))); refine ⟨congrArg Value.bool (Bool.eq_iff_iff.2 ?_), (Evo.refl [] w)⟩
  simp only [decide_eq_true_eq, Bool.false_eq_true, Bool.true_eq_false, true_iff, false_iff, eq_self, iff_true]; unfold iS; omega
theorem DC {X : List Nat} {w : World} {v : Value} {l : List (Int × Int)} (hs : RSl 2 RRg X w v l) (hl : l.length ≤ 140737488351232) : Calls Tryz.prog 106 #[v] w (Ret fun v w' => ∃ b, v = .bool b ∧ (b = true ↔ RangesOk l) ∧ Evo [] w w') := by
  obtain ⟨sa, sc, rfl, hlc, e1⟩ := hs; refine bJ (N := 58) Tryz.func106 rfl rfl rfl ?_; refine aE (aB (aM (aC (aA (aE (aE (aB (aG (aF (bK rfl Tryz.underlying24 rfl) ?_))))))))); refine aG (aC (aA (bR ?_))); refine eV (α := Nat) (0) (fun k => [(7, .int .i64 (k : Nat))]) [(0, _), (5, _), (6, _)] (fun k wr => Evo [] w wr ∧ (k ≤ l.length ∧ RangesTo l k)) (fun k => l.length - k) ⟨rfl, trivial⟩ ⟨rfl, rfl, rfl, trivial⟩ ⟨Evo.refl _ _, ⟨Nat.zero_le _, fun i _ h => by omega⟩⟩ ?_; rintro k wr1 ⟨hV2, ⟨hk, hok⟩⟩; show CW _ _ _ _ [(7, _), (0, _), (5, _), (6, _)] _; have hE3 := (Evo.refl [] w).then hV2; refine aE (aB (aF (dF rfl rfl) ?_)); refine aC (aA (aE (bF rfl (fun hc8 => ?_) (fun hc8 => ?_))))
  ·have hk' : k < l.length := by omega
   obtain ⟨b1, o1, vs1, ha1, hb1, -, hc1, rfl⟩ := e1 k hk'; refine aU (aA (aE (bR (aE (aB (aG ?_))))))
   refine aF (gF (n := k) (by rw [ha1]; rfl) rfl fE (by omega)) ?_
   refine aF (eJ rfl kD fY (vs := [_, _]) rfl (hc1.evo hE3 (by simp))) ?_; refine dA rfl mZ fun b4 w5 hB6 hs7 hw8 => ?_; refine aM (bI rfl rfl fY hB6 rfl rfl ⟨rfl, rfl, trivial⟩ fun w13 hB14 hw15 => ?_); have hE16 := (hE3.then hw8).step hw15 (Ge.new hE3 hs7).mem1; have hE17 := (hV2.then hw8).step hw15 (Ge.new hV2 hs7).mem1; refine aC (aA (aE ?_)); refine fH (by kernel_rfl) (by kernel_rfl) ?_; refine bM (fun _ hq19 => aD rfl gJ) ?_; refine bM (fun _ hq19 => aI rfl cF (aJ (hq19.blk0 hB14) rfl)) ?_; refine bM (fun _ hq19 => dF rfl rfl) ?_; refine bM (fun _ hq19 => bO rfl) ?_; refine kX (t := 15) rfl (fun hs15 => ?_) (fun hs15 => ?_)
   ·refine qln ?_; refine qln ?_; refine qln ?_; refine qln ?_; refine qln ?_; refine bM (fun _ hq19 => hD rfl rfl) ?_; refine bM (fun _ hq19 => bO rfl) ?_; refine qln ?_; refine qln ?_; refine qln ?_; refine bM (fun _ hq19 => hD rfl rfl) ?_; refine bM (fun _ hq19 => bO rfl) ?_; refine qln ?_; refine qln ?_; refine qln ?_; refine gO rfl rfl rfl rfl rfl ?_; refine gO rfl rfl rfl rfl rfl ?_; refine gO rfl rfl rfl rfl rfl ?_; refine gO rfl rfl rfl rfl rfl ?_; refine gO rfl rfl rfl rfl rfl ?_; refine gO rfl rfl rfl rfl rfl ?_; refine gO rfl rfl rfl rfl rfl ?_; refine gO rfl rfl rfl rfl rfl ?_; refine gO rfl rfl rfl rfl rfl ?_; refine gO rfl rfl rfl rfl rfl ?_; refine qln ?_; refine bM (fun _ hq19 => hD rfl rfl) ?_; refine fP (fun wq18 hq19 => aA ?_); refine cV rfl ?_; refine aE (aB (aM (aC (aA (aO (aX (aN (aN (aX (aN (br1 ?_)))))))))))
    exact ⟨false, rfl, by simp only [Bool.false_eq_true, false_iff]; exact fun h => by have := (h.1 k hk').1; omega, (hE16.then hq19)⟩
   refine qlg ?_; refine bM (fun _ hq19 => aD rfl gJ) ?_; refine qlg ?_; refine bM (fun _ hq19 => aI rfl cF (aJ (hq19.blk0 hB14) rfl)) ?_; refine qlg ?_; refine bM (fun _ hq19 => aD rfl fG) ?_; refine qlg ?_; refine bM (fun _ hq19 => aI rfl cF (aJ (hq19.blk0 hB14) rfl)) ?_; refine qlg ?_; refine bM (fun _ hq19 => gL rfl rfl) ?_; refine bM (fun _ hq19 => iE rfl rfl) ?_; refine bM (fun _ hq19 => bO rfl) ?_; refine kX (t := 22) rfl (fun hs22 => ?_) (fun hs22 => ?_)
   ·refine qln ?_; refine qln ?_; refine qln ?_; refine bM (fun _ hq19 => hD rfl rfl) ?_; refine bM (fun _ hq19 => bO rfl) ?_; refine qln ?_; refine qln ?_; refine qln ?_; refine gO rfl rfl rfl rfl rfl ?_; refine gO rfl rfl rfl rfl rfl ?_; refine gO rfl rfl rfl rfl rfl ?_; refine gO rfl rfl rfl rfl rfl ?_; refine gO rfl rfl rfl rfl rfl ?_; refine gO rfl rfl rfl rfl rfl ?_; refine gO rfl rfl rfl rfl rfl ?_; refine gO rfl rfl rfl rfl rfl ?_; refine gO rfl rfl rfl rfl rfl ?_; refine gO rfl rfl rfl rfl rfl ?_; refine qln ?_; refine bM (fun _ hq19 => hD rfl rfl) ?_; refine fP (fun wq18 hq19 => aA ?_); refine cV rfl ?_; refine aE (aB (aM (aC (aA (aO (aX (aN (aN (aX (aN (br1 ?_)))))))))))
    exact ⟨false, rfl, by simp only [Bool.false_eq_true, false_iff]; exact fun h => by have := (h.1 k hk').2.1; omega, (hE16.then hq19)⟩
   refine qlg ?_; refine bM (fun _ hq19 => aD rfl fG) ?_; refine qlg ?_; refine bM (fun _ hq19 => aI rfl cF (aJ (hq19.blk0 hB14) rfl)) ?_; refine qlg ?_; refine bM (fun _ hq19 => gL rfl rfl) ?_; refine bM (fun _ hq19 => iE rfl rfl) ?_; refine bM (fun _ hq19 => bO rfl) ?_; refine kX (t := 27) rfl (fun hs27 => ?_) (fun hs27 => ?_)
   ·refine qln ?_; refine qln ?_; refine qln ?_; refine gO rfl rfl rfl rfl rfl ?_; refine gO rfl rfl rfl rfl rfl ?_; refine gO rfl rfl rfl rfl rfl ?_; refine gO rfl rfl rfl rfl rfl ?_; refine gO rfl rfl rfl rfl rfl ?_; refine gO rfl rfl rfl rfl rfl ?_; refine gO rfl rfl rfl rfl rfl ?_; refine gO rfl rfl rfl rfl rfl ?_; refine gO rfl rfl rfl rfl rfl ?_; refine gO rfl rfl rfl rfl rfl ?_; refine qln ?_; refine bM (fun _ hq19 => hD rfl rfl) ?_; refine fP (fun wq18 hq19 => aA ?_); refine cV rfl ?_; refine aE (aB (aM (aC (aA (aO (aX (aN (aN (aX (aN (br1 ?_)))))))))))
    exact ⟨false, rfl, by simp only [Bool.false_eq_true, false_iff]; exact fun h => by have := (h.1 k hk').2.2.1; omega, (hE16.then hq19)⟩
   refine qlg ?_; refine bM (fun _ hq19 => bO rfl) ?_; refine qlg ?_; refine bM (fun _ hq19 => gL rfl rfl) ?_; refine qlg ?_; refine bM (fun _ hq19 => bO rfl) ?_; refine kX (t := 30) rfl (fun hs30 => ?_) (fun hs30 => ?_)
   ·obtain ⟨b2, o2, vs2, ha2, hb2, -, hc2, rfl⟩ := e1 (k - 1) (by omega); have hpr := hok (k - 1) (by omega) (by omega); refine qlg ?_; refine bM (fun _ hq19 => aD rfl gJ) ?_; refine qlg ?_; refine bM (fun _ hq19 => aI rfl cF (aJ (hq19.blk0 hB14) rfl)) ?_; refine qlg ?_; refine bM (fun _ hq19 => bO rfl) ?_; refine qlg ?_; refine bM (fun _ hq19 => bO rfl) ?_; refine qlg ?_; refine bM (fun _ hq19 => gK rfl rfl (by omega) (by omega)) ?_; refine qlg ?_
    refine bM (fun _ hq19 => gB (n := k - 1) (by rw [ha2]; rfl) rfl (by omega) fE (by omega)) ?_
    refine qlg ?_; refine bM (fun _ hq19 => aD rfl fG) ?_; refine qlg ?_; refine bM (fun _ hq19 => aI rfl cF ((hc2.evo (hE16.then hq19) (by simp)) 1 _ rfl)) ?_; refine qlg ?_; refine bM (fun _ hq19 => kB rfl rfl (by omega) (by omega)) ?_; refine qlg ?_; refine bM (fun _ hq19 => gY rfl rfl) ?_; refine qlg ?_; refine bM (fun _ hq19 => hD rfl rfl) ?_; refine bM (fun _ hq19 => iE rfl rfl) ?_; refine fP (fun wq18 hq19 => aA ?_); refine bF rfl (fun hc42 => ?_) (fun hc42 => ?_)
    ·refine aE (aB (aM (aC (aA (aO (aX (aN (aN (aX (aN (br1 ?_)))))))))))
     exact ⟨false, rfl, by simp only [Bool.false_eq_true, false_iff]; exact fun h => by have := (h.1 k hk').2.2.2 (k - 1) (by omega) (by omega); omega, (hE16.then hq19)⟩
    refine aU (aW (aA (aB ?_))); refine aF (bC rfl rfl (by omega) (by omega)) ?_; refine aG (aC (bY ?_)); refine ⟨k + 1, ?_, ⟨rfl, trivial⟩, ⟨rfl, rfl, rfl, trivial⟩, (hE17.then hq19), ?_⟩
    · omega
    exact ⟨by omega, hok.succ hk' (by omega) (by omega) (by omega) (fun j hj e => by first | (subst e; simp only [Nat.add_sub_cancel] at *; omega) | omega)⟩
   refine qln ?_; refine qln ?_; refine qln ?_; refine qln ?_; refine qln ?_; refine qln ?_; refine qln ?_; refine qln ?_; refine qln ?_; refine qln ?_; refine qlg ?_; refine bM (fun _ hq19 => iE rfl rfl) ?_; refine bM (fun _ hq19 => iE rfl rfl) ?_; refine fP (fun wq18 hq19 => aA ?_); refine cO rfl ?_; refine aU (aW (aA (aB ?_))); refine aF (bC rfl rfl (by omega) (by omega)) ?_; refine aG (aC (bY ?_)); refine ⟨k + 1, ?_, ⟨rfl, trivial⟩, ⟨rfl, rfl, rfl, trivial⟩, (hE17.then hq19), ?_⟩
   · omega
   exact ⟨by omega, hok.succ hk' (by omega) (by omega) (by omega) (fun j hj e => by first | (subst e; simp only [Nat.add_sub_cancel] at *; omega) | omega)⟩
  refine dO (cD (cD (dN (aA ?_)))); refine aE ?_; refine fH (by kernel_rfl) (by kernel_rfl) ?_; refine bM (fun _ hq31 => bO rfl) ?_; refine bM (fun _ hq31 => bK rfl Tryz.underlying24 rfl) ?_; refine bM (fun _ hq31 => fX rfl rfl) ?_; refine bM (fun _ hq31 => bO rfl) ?_; refine kX (t := 47) rfl (fun hs47 => ?_) (fun hs47 => ?_)
  ·refine qln ?_; refine qln ?_; refine qln ?_; refine qln ?_; refine qln ?_; refine qln ?_; refine qln ?_; refine qln ?_; refine qln ?_; refine bM (fun _ hq31 => hD rfl rfl) ?_; refine bM (fun _ hq31 => eT rfl) ?_; refine fP (fun wq30 hq31 => aA ?_); refine aO (br1 ?_)
   exact ⟨true, rfl, by simp only [true_iff]; exact hok.ok (by omega) (fun h => by omega), (hE3.then hq31)⟩
  obtain ⟨b3, o3, vs3, ha3, hb3, -, hc3, rfl⟩ := e1 0 (by omega); refine qlg ?_; refine bM (fun _ hq31 => bO rfl) ?_; refine qlg ?_
  refine bM (fun _ hq31 => gB (n := 0) (by rw [ha3]; rfl) rfl rfl fE (by omega)) ?_
  refine qlg ?_; refine bM (fun _ hq31 => aD rfl gJ) ?_; refine qlg ?_; refine bM (fun _ hq31 => aI rfl cF ((hc3.evo (hE3.then hq31) (by simp)) 0 _ rfl)) ?_; refine qlg ?_; refine bM (fun _ hq31 => bO rfl) ?_; refine qlg ?_
  refine bM (fun _ hq31 => gB (n := 0) (by rw [ha3]; rfl) rfl rfl fE (by omega)) ?_
  refine qlg ?_; refine bM (fun _ hq31 => aD rfl fG) ?_; refine qlg ?_; refine bM (fun _ hq31 => aI rfl cF ((hc3.evo (hE3.then hq31) (by simp)) 1 _ rfl)) ?_; refine qlg ?_; refine bM (fun _ hq31 => fX rfl rfl) ?_; refine bM (fun _ hq31 => iE rfl rfl) ?_; refine bM (fun _ hq31 => eT rfl) ?_; refine fP (fun wq30 hq31 => aA ?_); refine aO (br1 ?_)
  exact ⟨_, rfl, by simp only [decide_eq_true_eq]; exact ⟨fun h => hok.ok (by omega) (fun _ => h), fun h => h.2 (by omega)⟩, (hE3.then hq31)⟩
theorem RR {ns : List ByteArray} {nm : ByteArray} (h : ∀ j (hj : j < ns.length), nm = ByteArray.mk #[] ∨ ¬ ns[j] = nm) : nm = ByteArray.mk #[] ∨ nm ∉ ns := by
  by_cases h0 : nm = ByteArray.mk #[]
  · exact .inl h0
  · right
    intro hm
    obtain ⟨j, hj, he⟩ := List.getElem_of_mem hm
    rcases h j hj with h1 | h1
    · exact h0 h1
    · exact h1 he
theorem own_new {w : World} {jb : Nat} {ob ob' : Option Nat} (hne : ∀ g, ob = some g → g ≠ jb) (hlt : jb < w.heap.size) (h : ob' = ob ∨ ∃ g, ob' = some g ∧ w.heap.size ≤ g) : ∀ g, ob' = some g → g ≠ jb := fun g hg => by
  rcases h with rfl | ⟨g', h1, h2⟩
  · exact hne g hg
  · rw [hg] at h1; cases h1; omega
theorem GD {w : World} {jb : Nat} {st : St} {a : Option Addr} {c : Nat} {ob : Option Nat} {cap : Int} {nm : ByteArray} (hJ : JAt w 102 jb st a c ob) (hl : st.2.length ≤ 100000) (hn : nm.size ≤ 140737488351232) :
    Calls Tryz.prog 107 #[.pointer (some ⟨jb, 0, none⟩), .int .i64 cap, .string nm] w (Ret fun v w' => ∃ b, v = .bool b ∧ (b = true ↔ nP cap nm st.2) ∧ Evo (jb :: ob.toList) w w' ∧
      (b = true → ∃ a' c' ob', JAt w' 102 jb (st.1, st.2 ++ [nm]) a' c' ob' ∧ (ob' = ob ∨ ∃ g, ob' = some g ∧ w.heap.size ≤ g))) := by
  obtain ⟨hB, hO, hne⟩ := hJ
  have hAJN : Apart (some jb) ob := fun g h1 h2 => by cases h1; exact hne jb h2 rfl
  have hlt := eW hB; refine bJ (N := 60) Tryz.func107 rfl rfl rfl ?_; refine aE (aB (aM (aC (aA (aE (aE (aB (aG (aG (aF (aP rfl) (aF (aD rfl lB) (aF (aI rfl kQ (aJ hB rfl)) (aF (bK rfl Tryz.underlying22 rfl) ?_))))))))))))); refine aF (bC rfl rfl (by omega) (by omega)) ?_; refine aF (fX rfl rfl) ?_; refine aG (aV (t := 18) rfl (fun hs18 => ?_) (fun hs18 => ?_))
  ·refine aH (aH (bH (aC (aA (cV rfl ?_))))); refine aE (aB (aM (aC (aA (aO (aN (br1 ?_)))))))
   exact ⟨false, rfl, by simp only [Bool.false_eq_true, false_iff]; exact fun h => hs18 h.1, (Evo.refl (jb :: ob.toList) w), fun h => by cases h⟩
  refine aQ (aG (aQ (aF (gL rfl rfl) ?_))); refine aR (aC (aA (bF rfl (fun hc21 => ?_) (fun hc21 => ?_))))
  ·refine aE (aB (aM (aC (aA (aO (aN (br1 ?_)))))))
   exact ⟨false, rfl, by simp only [Bool.false_eq_true, false_iff]; exact fun h => by have := h.2.1; omega, (Evo.refl (jb :: ob.toList) w), fun h => by cases h⟩
  refine aU (aA (aE (aE (aB (aG (aF (cM rfl Tryz.underlying9 rfl) ?_)))))); refine aG (aC (aA (bR ?_))); refine eV (α := Nat) (0) (fun k => [(24, .int .i64 (k : Nat))]) [(0, _), (2, _), (23, _)] (fun k wr => Evo [] w wr ∧ (k ≤ nm.size ∧ ∀ j, j < k → iS (sb nm j))) (fun k => nm.size - k) ⟨rfl, trivial⟩ ⟨rfl, rfl, rfl, trivial⟩ ⟨Evo.refl _ _, ⟨Nat.zero_le _, fun j h => by omega⟩⟩ ?_; rintro k wr1 ⟨hV2, ⟨hk, hok⟩⟩; show CW _ _ _ _ [(24, _), (0, _), (2, _), (23, _)] _; have hE3 := (Evo.refl (jb :: ob.toList) w).then hV2; refine aE (aB (aF (dF rfl rfl) ?_)); refine aC (aA (aE (bF rfl (fun hc25 => ?_) (fun hc25 => ?_))))
  ·have hk' : k < nm.size := by omega
   refine aU (aA (aE (bR (aE (aB (aG (aM (aC (aA (aE (aB (aG (aG ?_))))))))))))); refine aF (fL (n := k) rfl rfl Tryz.underlying9 rfl (by omega)) ?_; refine aK (vs := [_]) nM rfl (wL (sb nm k)) rfl ?_; rintro _ w6 ⟨rfl, hw7⟩; refine aF (nE rfl) ?_; refine aC (aA (bF rfl (fun hc31 => ?_) (fun hc31 => ?_)))
   ·refine aE (aB (aM (aC (aA (aO (aX (aN (aN (aX (aN (br1 ?_)))))))))))
    exact ⟨false, rfl, by simp only [Bool.false_eq_true, false_iff]; exact fun h => hc31 (h.2.2.1 k hk'), (hE3.then hw7), fun h => by cases h⟩
   refine aU (aW (aA (aB ?_))); refine aF (bC rfl rfl (by omega) (by omega)) ?_; refine aG (aC (bY ?_)); refine ⟨k + 1, ?_, ⟨rfl, trivial⟩, ⟨rfl, rfl, rfl, trivial⟩, (hV2.then hw7), ?_⟩
   · omega
   refine ⟨by omega, fun j hj => ?_⟩
   by_cases e : j < k
   · exact hok j e
   · obtain rfl : j = k := by omega
     exact Classical.not_not.1 hc31
  refine dO (cD (cD (dN (aA ?_)))); refine aE (aE (aB (aG (aF (aP rfl) (aF (aD rfl lB) (aF (aI rfl kQ (aJ (hV2.blk0 hB) rfl)) (aF (bK rfl Tryz.underlying22 rfl) ?_))))))); refine aG (aC (aA (bR ?_))); refine eV (α := Nat) (0) (fun l => [(38, .int .i64 (l : Nat))]) [(0, _), (2, _), (36, _), (37, _)] (fun l wr => Evo [] wr1 wr ∧ (l ≤ st.2.length ∧ ∀ j (hj : j < st.2.length), j < l → nm = ByteArray.mk #[] ∨ ¬ st.2[j] = nm)) (fun l => st.2.length - l) ⟨rfl, trivial⟩ ⟨rfl, rfl, rfl, rfl, trivial⟩ ⟨Evo.refl _ _, ⟨Nat.zero_le _, fun j _ h => by omega⟩⟩ ?_; rintro l wr12 ⟨hV13, ⟨hl2, hno⟩⟩; show CW _ _ _ _ [(38, _), (0, _), (2, _), (36, _), (37, _)] _; have hE14 := hE3.then hV13; have hB16 := hV13.blk0 (hV2.blk0 hB); have hO17 := (hO.evo0 hV2).evo0 hV13; refine aE (aB (aF (dF rfl rfl) ?_)); refine aC (aA (aE (bF rfl (fun hc39 => ?_) (fun hc39 => ?_))))
  ·have hl' : l < st.2.length := by omega
   obtain ⟨gN, haN, hcN⟩ := QR hO17 (by omega); refine aU (aA (aE (bR (aE (aB ?_)))))
   refine aF (gF (n := l) (by rw [haN]; rfl) rfl nB (by omega)) ?_
   refine aF (aI rfl cJ (hcN l (by omega))) ?_; refine aM (aC (aA (aE (aB (aG (aF (tR rfl rfl) ?_)))))); refine aG (aV (t := 44) rfl (fun hs44 => ?_) (fun hs44 => ?_))
   ·refine aQ (aG (aQ (aG (aQ (aF (gQ rfl rfl) ?_))))); refine bH (aC (aA (bF rfl (fun hc48 => ?_) (fun hc48 => ?_))))
    ·refine aE (aB (aM (aC (aA (aO (aX (aN (aN (aX (aN (br1 ?_)))))))))))
     exact ⟨false, rfl, by simp only [Bool.false_eq_true, false_iff]; exact fun h => by rcases h.2.2.2 with h1 | h1; exact hs44 h1; exact h1 (hc48 ▸ List.getElem_mem hl'), hE14, fun h => by cases h⟩
    refine aU (aW (aA (aB ?_))); refine aF (bC rfl rfl (by omega) (by omega)) ?_; refine aG (aC (bY ?_)); refine ⟨l + 1, ?_, ⟨rfl, trivial⟩, ⟨rfl, rfl, rfl, rfl, trivial⟩, hV13, ?_⟩
    · omega
    refine ⟨by omega, fun j hj hjl => ?_⟩
    by_cases e : j < l
    · exact hno j hj e
    · obtain rfl : j = l := by omega
      exact .inr hc48
   refine aH (aH (aH (aR (aC (aA (cO rfl ?_)))))); refine aU (aW (aA (aB ?_))); refine aF (bC rfl rfl (by omega) (by omega)) ?_; refine aG (aC (bY ?_)); refine ⟨l + 1, ?_, ⟨rfl, trivial⟩, ⟨rfl, rfl, rfl, rfl, trivial⟩, hV13, ?_⟩
   · omega
   refine ⟨by omega, fun j hj hjl => ?_⟩
   by_cases e : j < l
   · exact hno j hj e
   · exact .inl (Classical.not_not.1 hs44)
  refine dO (cD (cD (dN (aA ?_)))); refine aE (aB (aG (aG (aF (aP rfl) (aF (aD rfl lB) (aF (aI rfl kQ (aJ hB16 rfl)) (aG (bL (vs := [_]) rfl uC rfl rfl rfl rfl fun b18 w19 hO20 hs21 hw22 => ?_)))))))); have hszg := ((hE14.then hw22)).size; refine dL rfl rfl rfl rfl sP (hO17.evo0 hw22) (Src.ofOwn hO20 ⟨rfl, trivial⟩) (by omega) fun a2 c2 w35 ob2 hO2 hw38 hob39 => ?_; have hE42 := (hE14.then hw22).step hw38 (fun y hy => .inl (List.mem_cons_of_mem _ hy)); have hob2 : ob2 = ob ∨ ∃ g, ob2 = some g ∧ w.heap.size ≤ g := hob39.imp id (fun ⟨g, h1, h2⟩ => ⟨g, h1, Nat.le_trans hszg h2⟩); refine aF (aP rfl) (aF (aD rfl lB) (bG rfl rfl (rfl) vV (hw38.blk (hw22.blk0 hB16) hAJN.nmem) rfl fun w47 hB48 hw49 => ?_))
  have hE50 := hE42.step hw49 (fun y hy => .inl (by rw [List.mem_singleton.1 hy]; exact List.mem_cons_self ..))
  have hO52 := hO2.evo hw49 (hAJN.app (Lt.blk (hw22.blk0 hB16)) hob39).symm.own1
  try simp only [cR, Nat.reduceAdd] at hB48
  refine aC (aA (aE (aB (aM (aC (aA (aO (br1 ?_)))))))); refine ⟨true, rfl, ?_, hE50, fun _ => ⟨a2, c2, ob2, ⟨?_, ?_, own_new hne hlt hob2⟩, hob2⟩⟩
  · simp only [true_iff]; exact ⟨Classical.not_not.1 hs18, by omega, fun j hj => hok j (by omega), RR (fun j hj => hno j hj (by omega))⟩
  · simp only [List.length_append, List.length_cons, List.length_nil]; exact hB48
  · rw [List.map_append, List.length_append]; exact hO52
end Go.Proofs.YtljadkcojnlioaaGreatDoor
