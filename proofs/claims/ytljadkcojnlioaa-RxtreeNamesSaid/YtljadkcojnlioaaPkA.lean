/- Names: part 1 of 6 of what the law rests on. -/
import Derived.Test.YtljadkcojnlioaaRows
import Derived.WalkKit
import Derived.OrdersHeld
import Derived.Deep.LoopGhost
import Derived.Deep.Quiet
import Derived.KernelRfl
import Derived.Laws.MakeOwn
import Derived.Laws.OwnMore
import Derived.Laws.BytesString
import Derived.Laws.RangeAny
import Derived.Laws.Strings2
import Derived.Laws.Slices
import Derived.Laws.Small
import Derived.Laws.Concat
import Derived.Lib.DecodeN
import Derived.Scope
import Derived.RangeFuncNested
import Derived.RangeFuncLeaves
import Derived.RangeFuncCalls
import Derived.TacticsIn
import Derived.OwnWalkIn
import Derived.Maps.RangeRun
import Derived.WalkSmall
import Derived.Recover
import Derived.Test.YtljadkcojnlioaaProg
import Derived.Shelf.GgSortFunc.RowK
import Derived.Shelf.Small.Bits
import Derived.Shelf.Small.Strs
import Derived.Shelf.Strconv.Itoa0
import Derived.Shelf.Strings.Search1
import Derived.Shelf.Strings.Search2
import Derived.Shelf.Strings.Search3
import Derived.Shelf.LaysM
import Derived.Shelf.Strings.Shaped
import Derived.Shelf.Strings.Prefix
import Derived.Shelf.SlSortCmp.WholeK
import Derived.Ground.SlsfProg
import Derived.Shelf.SlSortCmp.NoneTotal
import Derived.Lib.Index
import Derived.Shelf.Sort.Plain
import Derived.Shelf.Slices.CompactS
import Derived.Shelf.Slices.In.SortNone
import Derived.Shelf.Slices.Cells
import Derived.Shelf.Slices.Clone
import Derived.Lib.Repeat
import Derived.Lib.AppendStr
import Derived.ProofKit
import Derived.OpenShut
import Derived.SizedLaws
import Derived.ChangeOld
import Derived.HandedShaped
namespace Go.W
set_option linter.unusedSimpArgs false
set_option linter.unusedVariables false
abbrev Env := List (Nat × Value)
def Env.get : Env → Nat → Option Value
  | [], _ => none
  | (k, v) :: r, t => cond (Nat.beq k t) (some v) (Env.get r t)
def Env.ev (σ : Env) : Operand → Option Value
  | .tmp t => σ.get t
  | .const v => some v
  | .global g => some (.pointer (some ⟨g, 0, none⟩))
  | .func f => some (.func (.func f) #[] #[])
abbrev NN := Nat × List Deferred
def Fits (N : NN) (σ : Env) (a : Act) : Prop := a.tmps.size = N.1 ∧ a.defers = N.2 ∧ ∀ t v, σ.get t = some v → a.tmps.getD t undef = v
def Agrees (σ : Env) (ρ : Operand → Value) : Prop := ∀ x v, σ.ev x = some v → ρ x = v
theorem Fits.agrees {N : NN} {σ : Env} {a : Act} (h : Fits N σ a) : Agrees σ a.eval := by
  intro x v hx
  cases x with
  | tmp t => exact h.2.2 t v hx
  | const u => simp only [Env.ev, Option.some.injEq] at hx; exact hx
  | global g => simp only [Env.ev, Option.some.injEq] at hx; exact hx
  | func f => simp only [Env.ev, Option.some.injEq] at hx; exact hx
theorem Fits.put {N : NN} {σ : Env} {a : Act} (h : Fits N σ a) {d : Nat} (hd : d < N.1) (v : Value) : Fits N ((d, v) :: σ) (a.put (some d) v) := by
  refine ⟨by simp [Act.put, h.1], h.2.1, fun t u hu => ?_⟩
  simp only [Env.get] at hu
  cases hk : Nat.beq d t with
  | true =>
    rw [hk] at hu
    have : d = t := Nat.eq_of_beq_eq_true hk
    subst this
    simp only [cond_true, Option.some.injEq] at hu
    have hs : d < a.tmps.size := by rw [h.1]; exact hd
    simp [Act.put, hs, hu]
  | false =>
    rw [hk] at hu
    have hne : d ≠ t := Nat.ne_of_beq_eq_false hk
    have := h.2.2 t u hu
    simp only [Act.put, Array.getD_eq_getD_getElem?, Array.getElem?_setIfInBounds_ne hne] at this ⊢
    exact this
def Sub : Env → Env → Prop
  | [], _ => True
  | (k, v) :: r, σ => σ.get k = some v ∧ Sub r σ
theorem Sub.get {S σ : Env} (h : Sub S σ) : ∀ t v, S.get t = some v → σ.get t = some v := by
  induction S with
  | nil => intro t v hv; cases hv
  | cons p r ih =>
    obtain ⟨k, u⟩ := p
    intro t v hv
    simp only [Env.get] at hv
    cases hk : Nat.beq k t with
    | true =>
      rw [hk] at hv
      have : k = t := Nat.eq_of_beq_eq_true hk
      subst this
      simp only [cond_true, Option.some.injEq] at hv
      subst hv
      exact h.1
    | false => rw [hk] at hv; exact ih h.2 t v hv
theorem Fits.sub {N : NN} {S σ : Env} {a : Act} (hs : Sub S σ) (h : Fits N σ a) : Fits N S a :=
  ⟨h.1, h.2.1, fun t v hv => h.2.2 t v (hs.get t v hv)⟩
theorem Env.get_append {A B : Env} : ∀ t v, (A ++ B).get t = some v → A.get t = some v ∨ (A.get t = none ∧ B.get t = some v) := by
  induction A with
  | nil => intro t v h; exact .inr ⟨rfl, h⟩
  | cons p r ih =>
    obtain ⟨k, u⟩ := p
    intro t v h
    simp only [List.cons_append, Env.get] at h ⊢
    cases hk : Nat.beq k t with
    | true => rw [hk] at h; exact .inl h
    | false => rw [hk] at h; exact ih t v h
theorem Fits.app {N : NN} {A B σ τ : Env} {a : Act} (hA : Sub A σ) (hB : Sub B τ) (h : Fits N σ a) (h' : Fits N τ a) : Fits N (A ++ B) a :=
  ⟨h.1, h.2.1, fun t v hv => by
    rcases Env.get_append t v hv with h1 | ⟨_, h1⟩
    · exact h.2.2 t v (hA.get t v h1)
    · exact h'.2.2 t v (hB.get t v h1)⟩
abbrev Post := Exit → NN → Env → World → Prop
def toQ (R : Post) : Exit → Act → World → Prop
  | .panic c, a, w => ∃ N σ, Fits N σ a ∧ R (.panic c) N σ w
  | .outgrown, _, w => ∃ N : NN, R .outgrown N [] w
  | .normal, a, w => ∃ N σ, Fits N σ a ∧ R .normal N σ w
  | .exit i, a, w => ∃ N σ, Fits N σ a ∧ R (.exit i) N σ w
  | .goto l, a, w => ∃ N σ, Fits N σ a ∧ R (.goto l) N σ w
  | .ret, a, w => ∃ N σ, Fits N σ a ∧ R .ret N σ w
def CW (P : Program) (N : NN) (c : Code) (R : Post) (σ : Env) (w : World) : Prop := ∀ a, Fits N σ a → c.wp P (toQ R) a w
def thenR (K : NN → Env → World → Prop) (R : Post) : Post
  | .normal, N, σ, w => K N σ w
  | .exit i, N, σ, w => R (.exit i) N σ w
  | .goto l, N, σ, w => R (.goto l) N σ w
  | .ret, N, σ, w => R .ret N σ w
  | .panic c, N, σ, w => R (.panic c) N σ w
  | .outgrown, N, σ, w => R .outgrown N σ w
def blockR (id : Nat) (R : Post) : Post
  | .exit i, N, σ, w => cond (Nat.beq i id) (R .normal N σ w) (R (.exit i) N σ w)
  | .normal, N, σ, w => R .normal N σ w
  | .goto l, N, σ, w => R (.goto l) N σ w
  | .ret, N, σ, w => R .ret N σ w
  | .panic c, N, σ, w => R (.panic c) N σ w
  | .outgrown, N, σ, w => R .outgrown N σ w
section
variable {P : Program} {N : NN} {R : Post} {σ : Env} {w : World}
theorem cw_seq {x y : Code} (h : CW P N x (thenR (fun N σ w => CW P N y R σ w) R) σ w) : CW P N (.seq x y) R σ w := by
  intro a ha
  refine wp_seq (wp_mono (h a ha) ?_)
  intro e a' w' hq
  cases e with
  | normal => obtain ⟨N', σ', hf, hk⟩ := hq; exact hk a' hf
  | exit i => exact hq
  | goto l => exact hq
  | ret => exact hq
  | panic c => exact hq
  | outgrown => exact hq
theorem cw_block {id : Nat} {c : Code} (h : CW P N c (blockR id R) σ w) : CW P N (.block id c) R σ w := by
  intro a ha
  refine wp_block (wp_mono (h a ha) ?_)
  intro e a' w' hq
  cases e with
  | normal => exact hq
  | exit i =>
    obtain ⟨N', σ', hf, hk⟩ := hq
    simp only [blockR] at hk
    simp only [Exit.inBlock]
    cases hb : Nat.beq i id with
    | true =>
      rw [hb] at hk
      rw [if_pos (Nat.eq_of_beq_eq_true hb)]
      exact ⟨N', σ', hf, hk⟩
    | false =>
      rw [hb] at hk
      rw [if_neg (Nat.ne_of_beq_eq_false hb)]
      exact ⟨N', σ', hf, hk⟩
  | goto l => exact hq
  | ret => exact hq
  | panic c => exact hq
  | outgrown => exact hq
theorem cw_skip (h : R .normal N σ w) : CW P N .skip R σ w := fun _ ha => wp_skip ⟨N, σ, ha, h⟩
theorem cw_exit {i : Nat} (h : R (.exit i) N σ w) : CW P N (.exit i) R σ w := fun _ ha => wp_exit ⟨N, σ, ha, h⟩
theorem cw_ret (h : R .ret N σ w) : CW P N .ret R σ w := fun _ ha => wp_ret ⟨N, σ, ha, h⟩
theorem cw_if {c : Operand} {x y : Code} {p : Prop} [Decidable p] (hc : σ.ev c = some (.bool (decide p))) (ht : p → CW P N x R σ w) (hf : ¬ p → CW P N y R σ w) : CW P N (.cond c x y) R σ w := by
  intro a ha
  refine wp_cond_split (ha.agrees c _ hc) (fun h => ht (of_decide_eq_true h) a ha) (fun h => hf (of_decide_eq_false h) a ha)
theorem cw_ifb {c : Operand} {x y : Code} {b : Bool} (hc : σ.ev c = some (.bool b)) (ht : b = true → CW P N x R σ w) (hf : b = false → CW P N y R σ w) : CW P N (.cond c x y) R σ w := by
  intro a ha
  exact wp_cond_split (ha.agrees c _ hc) (fun h => ht h a ha) (fun h => hf h a ha)
theorem cw_true {c : Operand} {x y : Code} (hc : σ.ev c = some (.bool true)) (h : CW P N x R σ w) : CW P N (.cond c x y) R σ w :=
  fun a ha => wp_cond_true (ha.agrees c _ hc) (h a ha)
theorem cw_false {c : Operand} {x y : Code} (hc : σ.ev c = some (.bool false)) (h : CW P N y R σ w) : CW P N (.cond c x y) R σ w :=
  fun a ha => wp_cond_false (ha.agrees c _ hc) (h a ha)
theorem cw_loop {c : Code} {α : Type} (x0 : α) (M : α → Env) (C : Env) (Φ : α → World → Prop) (μ : α → Nat) (hM : Sub (M x0) σ) (hC : Sub C σ) (h0 : Φ x0 w)
    (round : ∀ x w, Φ x w → CW P N c (thenR (fun N' σ' w' => N' = N ∧ ∃ x', μ x' < μ x ∧ Sub (M x') σ' ∧ Sub C σ' ∧ Φ x' w') R) (M x ++ C) w) : CW P N (.loop c) R σ w := by
  intro a ha
  refine wp_loop_ghost (fun n a w => ∃ x, μ x = n ∧ Fits N (M x ++ C) a ∧ Φ x w) (μ x0) ⟨x0, rfl, Fits.app hM hC ha ha, h0⟩ ?_
  rintro n a w ⟨x, rfl, hf, hx⟩
  refine wp_mono (round x w hx a hf) ?_
  intro e a' w' hq
  cases e with
  | normal =>
    obtain ⟨N', σ', hf', rfl, x', hlt, hM', hC', hΦ⟩ := hq
    exact ⟨μ x', hlt, x', rfl, Fits.app hM' hC' hf' hf', hΦ⟩
  | exit i => exact hq
  | goto l => exact hq
  | ret => exact hq
  | panic c => exact hq
  | outgrown => exact hq
theorem nrm_then {K : NN → Env → World → Prop} (h : K N σ w) : thenR K R .normal N σ w := h
theorem nrm_same {K : Env → World → Prop} (h : K σ w) : thenR (fun N' σ' w' => N' = N ∧ K σ' w') R .normal N σ w := ⟨rfl, h⟩
theorem nrm_block {id : Nat} (h : R .normal N σ w) : blockR id R .normal N σ w := h
theorem ret_then {K : NN → Env → World → Prop} (h : R .ret N σ w) : thenR K R .ret N σ w := h
theorem ret_block {id : Nat} (h : R .ret N σ w) : blockR id R .ret N σ w := h
theorem ex_then {K : NN → Env → World → Prop} {i : Nat} (h : R (.exit i) N σ w) : thenR K R (.exit i) N σ w := h
theorem ex_here {i : Nat} (h : R .normal N σ w) : blockR i R (.exit i) N σ w := by
  show cond (Nat.beq i i) _ _
  rw [show Nat.beq i i = true from Nat.beq_refl i]
  exact h
theorem ex_past {i id : Nat} (hne : Nat.beq i id = false) (h : R (.exit i) N σ w) : blockR id R (.exit i) N σ w := by
  show cond (Nat.beq i id) _ _
  rw [hne]
  exact h
end
section
variable {P : Program} {σ : Env} {w : World}
def Ret (Φ : Value → World → Prop) : Ending → World → Prop := fun e w' => ∃ v, e = .returned v ∧ Φ v w'
def bodyR (P : Program) (fn : Func) (E : Ending → World → Prop) : Post
  | .normal, N, σ, w => N.2 = [] ∧ ∀ a, Fits (a.tmps.size, a.defers) σ a → ∃ v, (results fn a.tmps).run P w = .ok v w ∧ E (.returned v) w
  | .ret, N, σ, w => N.2 = [] ∧ ∀ a, Fits (a.tmps.size, a.defers) σ a → ∃ v, (results fn a.tmps).run P w = .ok v w ∧ E (.returned v) w
  | .panic chain, N, _, w => N.2 = [] ∧ E (.panicked chain) w
  | .outgrown, _, _, w => E .outgrown w
  | .exit _, _, _, _ => False
  | .goto _, _, _, _ => False
def paramEnv (k : Nat) : List Value → Env
  | [] => []
  | v :: r => (k, v) :: paramEnv (k + 1) r
theorem paramEnv_get : ∀ (l : List Value) (k t : Nat) (v : Value), (paramEnv k l).get t = some v → k ≤ t ∧ l[t - k]? = some v := by
  intro l
  induction l with
  | nil => intro k t v h; cases h
  | cons u r ih =>
    intro k t v h
    simp only [paramEnv, Env.get] at h
    cases hb : Nat.beq k t with
    | true =>
      rw [hb] at h
      have : k = t := Nat.eq_of_beq_eq_true hb
      subst this
      simp only [cond_true, Option.some.injEq] at h
      exact ⟨Nat.le_refl _, by simp [h]⟩
    | false =>
      rw [hb] at h
      have hne : k ≠ t := Nat.ne_of_beq_eq_false hb
      obtain ⟨h1, h2⟩ := ih (k + 1) t v h
      refine ⟨by omega, ?_⟩
      rw [show t - k = (t - (k + 1)) + 1 from by omega]
      simpa using h2
theorem calls_of_cw {f : FuncId} {fn : Func} {c : Code} {args : List Value} {E : Ending → World → Prop} {N : Nat}
    (hf : P.funcs[f]? = some fn) (hb : fn.body = some c) (hN : fn.ntmps = N) (hle' : Nat.ble args.length N = true)
    (h : CW P (N, []) c (bodyR P fn E) (paramEnv 0 args) w) : Calls P f args.toArray w E := by
  have hle : args.length ≤ N := Nat.le_of_ble_eq_true hle'; refine calls_of_wp hf hb (wp_mono (h _ ⟨?_, rfl, ?_⟩) ?_)
  · simp [hN]; omega
  · intro t v hv
    obtain ⟨_, h2⟩ := paramEnv_get args 0 t v hv; simp only [Nat.sub_zero] at h2; have hlt : t < args.length := (List.getElem?_eq_some_iff.1 h2).1
    have h3 : args[t] = v := by rw [List.getElem?_eq_getElem hlt] at h2; exact Option.some.inj h2
    simp [Array.getElem?_append, hlt, h3]
  · intro e a' w' hq
    cases e with
    | normal => obtain ⟨N', σ', hf', hn, hk⟩ := hq; obtain ⟨v, h1, h2⟩ := hk a' (by rw [hf'.1, hf'.2.1]; exact hf'); exact ⟨hf'.2.1.trans hn, v, h1, h2⟩
    | ret => obtain ⟨N', σ', hf', hn, hk⟩ := hq; obtain ⟨v, h1, h2⟩ := hk a' (by rw [hf'.1, hf'.2.1]; exact hf'); exact ⟨hf'.2.1.trans hn, v, h1, h2⟩
    | panic ch => obtain ⟨N', σ', hf, hn, hk⟩ := hq; exact ⟨hf.2.1.trans hn, hk⟩
    | outgrown => obtain ⟨_, hk⟩ := hq; exact hk
    | exit i => obtain ⟨_, _, _, hk⟩ := hq; exact hk
    | goto l => obtain ⟨_, _, _, hk⟩ := hq; exact hk
theorem body_end0 {n : Nat} {fn : Func} {Φ : Value → World → Prop} (hr : fn.results = #[]) (h : Φ (.tuple #[]) w) : bodyR P fn (Ret Φ) .normal (n, []) σ w :=
  ⟨rfl, fun _ _ => ⟨.tuple #[], results_none hr _ _ _, _, rfl, h⟩⟩
theorem body_ret1 {n : Nat} {fn : Func} {t : Tmp} {v : Value} {Φ : Value → World → Prop} (hr : fn.results = #[.tmp t]) (hv : σ.get t = some v) (h : Φ v w) : bodyR P fn (Ret Φ) .ret (n, []) σ w :=
  ⟨rfl, fun a ha => ⟨v, by rw [results_tmp hr, ha.2.2 t v hv], _, rfl, h⟩⟩
theorem body_ret2 {n : Nat} {fn : Func} {t u : Tmp} {v v' : Value} {Φ : Value → World → Prop} (hr : fn.results = #[.tmp t, .tmp u]) (hv : σ.get t = some v) (hv' : σ.get u = some v') (h : Φ (.tuple #[v, v']) w) : bodyR P fn (Ret Φ) .ret (n, []) σ w :=
  ⟨rfl, fun a ha => ⟨.tuple #[v, v'], by rw [results_tmp2 hr, ha.2.2 t v hv, ha.2.2 u v' hv'], _, rfl, h⟩⟩
end
structure Evo (X : List Nat) (w w' : World) : Prop where
  os : w'.os = w.os
  tape : w'.tape = w.tape
  output : w'.output = w.output
  size : w.heap.size ≤ w'.heap.size
  block : ∀ b, b < w.heap.size → b ∉ X → w'.heap[b]? = w.heap[b]?
theorem Evo.refl (X : List Nat) (w : World) : Evo X w w := ⟨rfl, rfl, rfl, Nat.le_refl _, fun _ _ _ => rfl⟩
theorem Evo.trans {X : List Nat} {a b c : World} (h : Evo X a b) (k : Evo X b c) : Evo X a c :=
  ⟨k.os.trans h.os, k.tape.trans h.tape, k.output.trans h.output, Nat.le_trans h.size k.size, fun i hi hx => (k.block i (Nat.lt_of_lt_of_le hi h.size) hx).trans (h.block i hi hx)⟩
theorem Evo.mono {X Y : List Nat} {w w' : World} (h : Evo X w w') (hxy : ∀ b, b ∈ X → b ∈ Y) : Evo Y w w' :=
  ⟨h.os, h.tape, h.output, h.size, fun b hb hy => h.block b hb (fun hx => hy (hxy b hx))⟩
theorem Evo.any {w w' : World} (h : Evo [] w w') (Y : List Nat) : Evo Y w w' := h.mono (fun _ hb => by cases hb)
theorem Evo.step {X Y : List Nat} {a b c : World} (h : Evo X a b) (k : Evo Y b c) (hy : ∀ y, y ∈ Y → y ∈ X ∨ a.heap.size ≤ y) : Evo X a c :=
  ⟨k.os.trans h.os, k.tape.trans h.tape, k.output.trans h.output, Nat.le_trans h.size k.size, fun i hi hx =>
    (k.block i (Nat.lt_of_lt_of_le hi h.size) (fun hiy => by rcases hy i hiy with h1 | h1 <;> first | exact hx h1 | omega)).trans (h.block i hi hx)⟩
theorem Evo.then {a b c : World} {X : List Nat} (h : Evo X a b) (k : Evo [] b c) : Evo X a c := h.step k (fun _ hy => by cases hy)
theorem Evo.blk {X : List Nat} {w w' : World} (h : Evo X w w') {b : Nat} {o : Obj} (hb : w.heap[b]? = some o) (hx : b ∉ X) : w'.heap[b]? = some o := by
  rw [h.block b (Array.getElem?_eq_some_iff.1 hb).1 hx]; exact hb
theorem Evo.blk0 {w w' : World} (h : Evo [] w w') {b : Nat} {o : Obj} (hb : w.heap[b]? = some o) : w'.heap[b]? = some o := h.blk hb (fun h => by cases h)
theorem Evo.cell {X : List Nat} {w w' : World} (h : Evo X w w') {a : Addr} {v : Value} (hc : w.cell? a = some v) (hx : a.block ∉ X) : w'.cell? a = some v :=
  (World.cell?_of_block (h.block a.block (World.block_lt_of_cell? w a hc) hx)).trans hc
theorem blk_lt {w : World} {b : Nat} {o : Obj} (hb : w.heap[b]? = some o) : b < w.heap.size := (Array.getElem?_eq_some_iff.1 hb).1
theorem Evo.below {w w' : World} (h : Evo [] w w') : RowKit.Below w.heap.size w w' := ⟨h.os, h.tape, h.output, h.size, fun k hk => h.block k hk (fun h => by cases h)⟩
theorem Evo.of_grown {w w' : World} {row : Option Nat} (h : w.grownBy w' row) : Evo row.toList w w' :=
  ⟨h.os, h.tape, h.output, h.size, fun b hb hx => h.block b hb (fun e => hx (by simp [← e]))⟩
theorem evo_drew (w : World) : Evo [] w { w with drawn := w.drawn + 1 } := ⟨rfl, rfl, rfl, Nat.le_refl _, fun _ _ _ => rfl⟩
theorem evo_alloc (w : World) (o : Obj) : Evo [] w (w.alloc o) := ⟨rfl, rfl, rfl, by simp, fun k hk _ => RowKit.Below.heap_alloc w o k hk⟩
theorem evo_setCell (w : World) (a : Addr) (v : Value) : Evo [a.block] w (w.setCell a v) :=
  ⟨rfl, rfl, rfl, by simp, fun k _ hx => RowKit.Below.heap_setCell _ _ _ _ (fun e => hx (by simp [e]))⟩
def aggB (P : Program) (t : TypeId) : Option Bool := (P.underlying t).map fun | .struct _ | .array _ _ => true | _ => false
def sizeB (P : Program) (t : TypeId) : Option Nat := (P.info? t).map (·.size)
def fieldB (P : Program) (s : TypeId) (i : Nat) : Option Nat :=
  match P.underlying s with
  | some (.struct fs) => match fs[i]? with
    | some f => match P.info? f.type with
      | some n => if n.size = 0 then none else some f.offset
      | none => none
    | none => none
  | _ => none
def elemB (P : Program) (t : TypeId) : Option Nat :=
  match P.underlying t with
  | some (.slice e) => (P.info? e).map (·.size)
  | _ => none
def Goes (P : Program) (f : FuncId) : Prop := ∃ fn, P.funcs[f]? = some fn ∧ (fn.name == "runtime.NumGoroutine") = false ∧ fn.body.isNone = false
def Ex (P : Program) (σ : Env) (o : Oper) (w : World) (r : Value) (w' : World) : Prop := ∀ ρ, Agrees σ ρ → (execOp ρ o).run P w = .ok (.value r) w'
def ExS (P : Program) (σ : Env) (o : Oper) (w : World) (w' : World) : Prop := ∀ ρ, Agrees σ ρ → (execOp ρ o).run P w = .ok .skip w'
def WL (P : Program) (N : NN) (ops : Array Oper) (R : Post) (l : List Oper) (σ : Env) (w : World) : Prop := ∀ a, Fits N σ a → wpList P ops (toQ R) l a w
section
variable {P : Program} {N : NN} {R : Post} {σ : Env} {w w' : World} {ops : Array Oper} {rest : List Oper} {d : Nat} {op : Op} {T : TypeId} {pos : String} {after : Array Edge}
theorem cw_region {id : Nat} {l : List Oper} (h : WL P N l.toArray R l σ w) : CW P N (.region id l.toArray false) R σ w := fun a ha => wp_region_lit (h a ha)
theorem wl_nil (h : R .normal N σ w) : WL P N ops R [] σ w := fun _ ha => wpList_nil ⟨N, σ, ha, h⟩
theorem wl_val {r : Value} (hd : Nat.blt d N.1 = true) (hx : Ex P σ ⟨some d, op, T, pos, after, none⟩ w r w') (h : WL P N ops R rest ((d, r) :: σ) w') :
    WL P N ops R (⟨some d, op, T, pos, after, none⟩ :: rest) σ w := fun a ha => wpList_plain rfl fun K hK => by
  unfold Oper.wp
  rw [hx a.eval ha.agrees]
  exact hK _ _ (h _ (ha.put (of_decide_eq_true (by simpa using hd)) r))
theorem wl_skip (hx : ExS P σ ⟨none, op, T, pos, after, none⟩ w w') (h : WL P N ops R rest σ w') :
    WL P N ops R (⟨none, op, T, pos, after, none⟩ :: rest) σ w := fun a ha => wpList_plain rfl fun K hK => by
  unfold Oper.wp
  rw [hx a.eval ha.agrees]
  exact hK _ _ (h _ ha)
theorem wl_go {dst : Option Nat} {j : Nat} {pol : Bool} {oj : Oper} {t : Nat} (hj : ops[j]? = some oj) (ht : oj.dst = some t) (hv : σ.get t = some (.bool pol)) (hN : Nat.blt t N.1 = true)
    (h : WL P N ops R (⟨dst, op, T, pos, after, none⟩ :: rest) σ w) : WL P N ops R (⟨dst, op, T, pos, after, some (j, pol)⟩ :: rest) σ w := fun a ha => by
  have h1 := h a ha
  have hg : Region.wanted (⟨dst, op, T, pos, after, some (j, pol)⟩ : Oper) (yielded ops a.tmps) = true := by
    have hs : t < a.tmps.size := by rw [ha.1]; exact of_decide_eq_true (by simpa using hN)
    have := ha.2.2 t _ hv
    simp only [Array.getD_eq_getD_getElem?, Array.getElem?_eq_getElem hs, Option.getD_some] at this
    simp [Region.wanted, yielded, hj, ht, Array.getElem?_eq_getElem hs, this]
  unfold wpList at h1 ⊢
  rw [if_pos hg]
  rw [if_pos (by simp [Region.wanted])] at h1
  exact h1
theorem wl_no {j : Nat} {pol b : Bool} {oj : Oper} {t : Nat} (hj : ops[j]? = some oj) (ht : oj.dst = some t) (hv : σ.get t = some (.bool b)) (hb : b = !pol) (hN : Nat.blt t N.1 = true) (hd : Nat.blt d N.1 = true)
    (h : WL P N ops R rest ((d, undef) :: σ) w) : WL P N ops R (⟨some d, op, T, pos, after, some (j, pol)⟩ :: rest) σ w := fun a ha => by
  have hg : Region.wanted (⟨some d, op, T, pos, after, some (j, pol)⟩ : Oper) (yielded ops a.tmps) = false := by
    have hs : t < a.tmps.size := by rw [ha.1]; exact of_decide_eq_true (by simpa using hN)
    have := ha.2.2 t _ hv
    simp only [Array.getD_eq_getD_getElem?, Array.getElem?_eq_getElem hs, Option.getD_some] at this
    subst hb
    cases pol <;> simp [Region.wanted, yielded, hj, ht, Array.getElem?_eq_getElem hs, this]
  unfold wpList
  rw [if_neg (by rw [hg]; simp)]
  exact h _ (ha.put (of_decide_eq_true (by simpa using hd)) _)
theorem wl_split {l : List Oper} {t : Nat} {p : Prop} [Decidable p] (hv : σ.get t = some (.bool (decide p))) (ht : p → WL P N ops R l ((t, .bool true) :: σ) w) (hf : ¬ p → WL P N ops R l ((t, .bool false) :: σ) w) : WL P N ops R l σ w := by
  intro a ha
  by_cases h : p
  · refine ht h a ⟨ha.1, ha.2.1, fun u v hu => ?_⟩
    simp only [Env.get] at hu
    cases hb : Nat.beq t u with
    | true =>
      rw [hb] at hu
      have : t = u := Nat.eq_of_beq_eq_true hb
      subst this
      simp only [cond_true, Option.some.injEq] at hu
      rw [← hu, ha.2.2 t _ hv, decide_eq_true h]
    | false => rw [hb] at hu; exact ha.2.2 u v hu
  · refine hf h a ⟨ha.1, ha.2.1, fun u v hu => ?_⟩
    simp only [Env.get] at hu
    cases hb : Nat.beq t u with
    | true =>
      rw [hb] at hu
      have : t = u := Nat.eq_of_beq_eq_true hb
      subst this
      simp only [cond_true, Option.some.injEq] at hu
      rw [← hu, ha.2.2 t _ hv, decide_eq_false h]
    | false => rw [hb] at hu; exact ha.2.2 u v hu
theorem wl_splitb {l : List Oper} {t : Nat} {b : Bool} (hv : σ.get t = some (.bool b)) (ht : b = true → WL P N ops R l ((t, .bool true) :: σ) w) (hf : b = false → WL P N ops R l ((t, .bool false) :: σ) w) : WL P N ops R l σ w := by
  have hv' : σ.get t = some (.bool (decide (b = true))) := by rw [hv]; cases b <;> rfl
  exact wl_split hv' ht (fun h => hf (by simpa using h))
theorem wl_call {dst : Option Nat} {f : FuncId} {xs : Array Operand} {ats : Array TypeId} {vs : List Value} {Φ : Value → World → Prop} (hgo : Goes P f) (hxs : xs.toList.map σ.ev = vs.map some)
    (hc : Calls P f vs.toArray w (Ret Φ)) (hd : ∀ k, dst = some k → Nat.blt k N.1 = true)
    (h : ∀ v w', Φ v w' → WL P N ops R rest (match dst with | some k => (k, v) :: σ | none => σ) w') :
    WL P N ops R (⟨dst, .call ⟨.value (.func f), xs, ats⟩, T, pos, after, none⟩ :: rest) σ w := fun a ha => wpList_plain rfl fun K hK => by
  have hargs : xs.map a.eval = vs.toArray := by
    apply Array.ext'
    rw [Array.toList_map]
    have hag := ha.agrees
    clear hK hc h ha
    generalize xs.toList = l at *
    clear xs
    revert vs
    induction l with
    | nil => intro vs hxs; cases vs with | nil => rfl | cons _ _ => simp at hxs
    | cons x l ih =>
      intro vs hxs
      cases vs with
      | nil => simp at hxs
      | cons v vs =>
        simp only [List.map_cons, List.cons.injEq] at hxs
        simp only [List.map_cons, hag x v hxs.1]
        exact congrArg _ (ih hxs.2)
  obtain ⟨fn, hf, hn, hbd⟩ := hgo
  unfold Oper.wp
  have hrun : (execOp a.eval ⟨dst, .call ⟨.value (.func f), xs, ats⟩, T, pos, after, none⟩).run P w = .ok (.enter f vs.toArray) w := by
    have hn' : ¬ fn.name = "runtime.NumGoroutine" := by simpa using hn
    have hb' : ¬ fn.body = none := by intro hh; simp [hh] at hbd
    simp only [execOp, resolve, hargs]
    simp [Act.eval, Deferred.ofValue, invoke, callFunc, hf, hn', hb']
  rw [hrun]
  show Calls P f vs.toArray w _
  refine hc.mono ?_
  rintro e w' ⟨v, rfl, hΦ⟩
  cases dst with
  | none => exact hK _ _ (h v w' hΦ a ha)
  | some k => exact hK _ _ (h v w' hΦ _ (ha.put (of_decide_eq_true (by simpa using hd k rfl)) v))
end
section
variable {P : Program} {σ : Env} {w : World} {dst : Option Nat} {T : TypeId} {pos : String} {after : Array Edge} {g : Option (Nat × Bool)}
theorem ex_move {x : Operand} {v : Value} (hx : σ.ev x = some v) : Ex P σ ⟨dst, .move x, T, pos, after, g⟩ w v w := fun ρ h => by
  simp [execOp, h x v hx]
theorem ex_assign {x : Operand} {v : Value} (hx : σ.ev x = some v) : Ex P σ ⟨dst, .assign x, T, pos, after, g⟩ w v w := fun ρ h => by
  simp [execOp, h x v hx]
theorem ex_pick_t {c x y : Operand} {v : Value} (hc : σ.ev c = some (.bool true)) (hx : σ.ev x = some v) : Ex P σ ⟨dst, .pick c x y, T, pos, after, g⟩ w v w := fun ρ h => by
  simp [execOp, h c _ hc, h x v hx, asBool]
theorem ex_pick_f {c x y : Operand} {v : Value} (hc : σ.ev c = some (.bool false)) (hx : σ.ev y = some v) : Ex P σ ⟨dst, .pick c x y, T, pos, after, g⟩ w v w := fun ρ h => by
  simp [execOp, h c _ hc, h y v hx, asBool]
theorem ex_not {x : Operand} {t : TypeId} {p : Prop} [Decidable p] (hx : σ.ev x = some (.bool (decide p))) : Ex P σ ⟨dst, .unOp .not t x, T, pos, after, g⟩ w (.bool (decide (¬ p))) w := fun ρ h => by
  simp [execOp, h x _ hx, Op.unary]
theorem ex_notb {x : Operand} {t : TypeId} {b : Bool} (hx : σ.ev x = some (.bool b)) : Ex P σ ⟨dst, .unOp .not t x, T, pos, after, g⟩ w (.bool (!b)) w := fun ρ h => by
  simp [execOp, h x _ hx, Op.unary]
theorem ex_int {bop : BinOp} {x y : Operand} {t t' : TypeId} {k : IntKind} {m n : Int} {v : Value} (hop : ∀ w : World, (Go.binOp bop t (.int k m) (.int k n)).run P w = .ok v w)
    (hx : σ.ev x = some (.int k m)) (hy : σ.ev y = some (.int k n)) : Ex P σ ⟨dst, .binOp bop t x y t', T, pos, after, g⟩ w v w := fun ρ h => by
  simp only [execOp, h x _ hx, h y _ hy]
  cases bop <;> simp [eqGuard, hop]
theorem wrap_of {k : IntKind} {n : Int} (h : k.min ≤ n) (h' : n ≤ k.max) : k.wrap n = n := by
  cases k <;> simp only [IntKind.wrap, IntKind.min, IntKind.max, IntKind.bits, IntKind.signed] at * <;> simp at * <;> (try split) <;> omega
theorem ex_add {x y : Operand} {t t' : TypeId} {k : IntKind} {m n : Int} (hx : σ.ev x = some (.int k m)) (hy : σ.ev y = some (.int k n)) (h1 : k.min ≤ m + n) (h2 : m + n ≤ k.max) :
    Ex P σ ⟨dst, .binOp .add t x y t', T, pos, after, g⟩ w (.int k (m + n)) w := ex_int (fun w => by simp [Go.binOp, Op.intArith, wrap_of h1 h2]) hx hy
theorem ex_sub {x y : Operand} {t t' : TypeId} {k : IntKind} {m n : Int} (hx : σ.ev x = some (.int k m)) (hy : σ.ev y = some (.int k n)) (h1 : k.min ≤ m - n) (h2 : m - n ≤ k.max) :
    Ex P σ ⟨dst, .binOp .sub t x y t', T, pos, after, g⟩ w (.int k (m - n)) w := ex_int (fun w => by simp [Go.binOp, Op.intArith, wrap_of h1 h2]) hx hy
theorem ex_mul {x y : Operand} {t t' : TypeId} {k : IntKind} {m n : Int} (hx : σ.ev x = some (.int k m)) (hy : σ.ev y = some (.int k n)) (h1 : k.min ≤ m * n) (h2 : m * n ≤ k.max) :
    Ex P σ ⟨dst, .binOp .mul t x y t', T, pos, after, g⟩ w (.int k (m * n)) w := ex_int (fun w => by simp [Go.binOp, Op.intArith, wrap_of h1 h2]) hx hy
theorem ex_eql {x y : Operand} {t t' : TypeId} {k : IntKind} {m n : Int} (hx : σ.ev x = some (.int k m)) (hy : σ.ev y = some (.int k n)) :
    Ex P σ ⟨dst, .binOp .eql t x y t', T, pos, after, g⟩ w (.bool (decide (m = n))) w := ex_int (fun w => by simp only [Go.binOp, Op.intCmp]; simp; rw [Bool.eq_iff_iff]; simp) hx hy
theorem ex_neq {x y : Operand} {t t' : TypeId} {k : IntKind} {m n : Int} (hx : σ.ev x = some (.int k m)) (hy : σ.ev y = some (.int k n)) :
    Ex P σ ⟨dst, .binOp .neq t x y t', T, pos, after, g⟩ w (.bool (decide (m ≠ n))) w := ex_int (fun w => by simp only [Go.binOp, Op.intCmp]; simp; rw [Bool.eq_iff_iff]; simp) hx hy
theorem ex_lss {x y : Operand} {t t' : TypeId} {k : IntKind} {m n : Int} (hx : σ.ev x = some (.int k m)) (hy : σ.ev y = some (.int k n)) :
    Ex P σ ⟨dst, .binOp .lss t x y t', T, pos, after, g⟩ w (.bool (decide (m < n))) w := ex_int (fun w => by simp [Go.binOp, Op.intCmp]) hx hy
theorem ex_leq {x y : Operand} {t t' : TypeId} {k : IntKind} {m n : Int} (hx : σ.ev x = some (.int k m)) (hy : σ.ev y = some (.int k n)) :
    Ex P σ ⟨dst, .binOp .leq t x y t', T, pos, after, g⟩ w (.bool (decide (m ≤ n))) w := ex_int (fun w => by simp [Go.binOp, Op.intCmp]) hx hy
theorem ex_gtr {x y : Operand} {t t' : TypeId} {k : IntKind} {m n : Int} (hx : σ.ev x = some (.int k m)) (hy : σ.ev y = some (.int k n)) :
    Ex P σ ⟨dst, .binOp .gtr t x y t', T, pos, after, g⟩ w (.bool (decide (n < m))) w := ex_int (fun w => by simp [Go.binOp, Op.intCmp]) hx hy
theorem ex_geq {x y : Operand} {t t' : TypeId} {k : IntKind} {m n : Int} (hx : σ.ev x = some (.int k m)) (hy : σ.ev y = some (.int k n)) :
    Ex P σ ⟨dst, .binOp .geq t x y t', T, pos, after, g⟩ w (.bool (decide (n ≤ m))) w := ex_int (fun w => by simp [Go.binOp, Op.intCmp]) hx hy
theorem ex_add_i64 {x y : Operand} {t t' : TypeId} {m n : Int} (hx : σ.ev x = some (.int .i64 m)) (hy : σ.ev y = some (.int .i64 n)) (h1 : -9223372036854775808 ≤ m + n) (h2 : m + n ≤ 9223372036854775807) :
    Ex P σ ⟨dst, .binOp .add t x y t', T, pos, after, g⟩ w (.int .i64 (m + n)) w := ex_add hx hy h1 h2
theorem ex_sub_i64 {x y : Operand} {t t' : TypeId} {m n : Int} (hx : σ.ev x = some (.int .i64 m)) (hy : σ.ev y = some (.int .i64 n)) (h1 : -9223372036854775808 ≤ m - n) (h2 : m - n ≤ 9223372036854775807) :
    Ex P σ ⟨dst, .binOp .sub t x y t', T, pos, after, g⟩ w (.int .i64 (m - n)) w := ex_sub hx hy h1 h2
theorem ex_mul_i64 {x y : Operand} {t t' : TypeId} {m n : Int} (hx : σ.ev x = some (.int .i64 m)) (hy : σ.ev y = some (.int .i64 n)) (h1 : -9223372036854775808 ≤ m * n) (h2 : m * n ≤ 9223372036854775807) :
    Ex P σ ⟨dst, .binOp .mul t x y t', T, pos, after, g⟩ w (.int .i64 (m * n)) w := ex_mul hx hy h1 h2
theorem ex_add_i32 {x y : Operand} {t t' : TypeId} {m n : Int} (hx : σ.ev x = some (.int .i32 m)) (hy : σ.ev y = some (.int .i32 n)) (h1 : -2147483648 ≤ m + n) (h2 : m + n ≤ 2147483647) :
    Ex P σ ⟨dst, .binOp .add t x y t', T, pos, after, g⟩ w (.int .i32 (m + n)) w := ex_add hx hy h1 h2
theorem ex_sub_i32 {x y : Operand} {t t' : TypeId} {m n : Int} (hx : σ.ev x = some (.int .i32 m)) (hy : σ.ev y = some (.int .i32 n)) (h1 : -2147483648 ≤ m - n) (h2 : m - n ≤ 2147483647) :
    Ex P σ ⟨dst, .binOp .sub t x y t', T, pos, after, g⟩ w (.int .i32 (m - n)) w := ex_sub hx hy h1 h2
theorem ex_sub_u8 {x y : Operand} {t t' : TypeId} {m n : Int} (hx : σ.ev x = some (.int .u8 m)) (hy : σ.ev y = some (.int .u8 n)) (h1 : 0 ≤ m - n) (h2 : m - n ≤ 255) :
    Ex P σ ⟨dst, .binOp .sub t x y t', T, pos, after, g⟩ w (.int .u8 (m - n)) w := ex_sub hx hy h1 h2
theorem ex_len_slice {x : Operand} {ats : Array TypeId} {t e : TypeId} {a : Option Addr} {n c : Nat} (hx : σ.ev x = some (.slice a n c)) (ht : P.underlying t = some (.slice e)) (hats : ats = #[t]) :
    Ex P σ ⟨dst, .call ⟨.builtin .len, #[x], ats⟩, T, pos, after, g⟩ w (.int .i64 n) w := fun ρ h => by
  subst hats
  simp [execOp, resolve, h x _ hx, invoke, builtin, Builtin.len_, run_underlying ht, goInt]
theorem ex_len_str {x : Operand} {ats : Array TypeId} {t : TypeId} {s : ByteArray} (hx : σ.ev x = some (.string s)) (ht : P.underlying t = some .string) (hats : ats = #[t]) :
    Ex P σ ⟨dst, .call ⟨.builtin .len, #[x], ats⟩, T, pos, after, g⟩ w (.int .i64 s.size) w := fun ρ h => by
  subst hats
  simp [execOp, resolve, h x _ hx, invoke, builtin, Builtin.len_, run_underlying ht, goInt]
theorem ex_nilCheck {x : Operand} {a : Addr} (hx : σ.ev x = some (.pointer (some a))) : Ex P σ ⟨dst, .nilCheck x, T, pos, after, g⟩ w (.pointer (some a)) w := fun ρ h => by
  simp [execOp, h x _ hx]
theorem ex_fieldAddr {x : Operand} {s : TypeId} {i off b o : Nat} (hx : σ.ev x = some (.pointer (some ⟨b, o, none⟩))) (hf : fieldB P s i = some off) :
    Ex P σ ⟨dst, .fieldAddr s x i, T, pos, after, g⟩ w (.pointer (some ⟨b, o + off, none⟩)) w := fun ρ h => by
  simp only [fieldB] at hf
  split at hf <;> try cases hf
  rename_i fs hu
  split at hf <;> try cases hf
  rename_i f hfs
  split at hf <;> try cases hf
  rename_i n hn
  split at hf <;> try cases hf
  rename_i hsz
  have ha : (⟨b, o, none⟩ : Addr).add f.offset = ⟨b, o + f.offset, none⟩ := by unfold Addr.add; split <;> simp_all
  simp [execOp, h x _ hx, Instr.fieldAt, run_underlying hu, hfs, Instr.sureAddr, fieldPlace, sizeOf, typeInfo, hn, hsz, ha]
theorem ex_indexAddr {x i : Operand} {t : TypeId} {k : IntKind} {n sz b o len c : Nat} (hx : σ.ev x = some (.slice (some ⟨b, o, none⟩) len c)) (hi : σ.ev i = some (.int k n)) (he : elemB P t = some sz) (hlt : n < len) :
    Ex P σ ⟨dst, .indexAddr t x i, T, pos, after, g⟩ w (.pointer (some ⟨b, o + n * sz, none⟩)) w := fun ρ h => by
  simp only [elemB] at he
  split at he <;> try cases he
  rename_i e hu
  obtain ⟨inf, hin, hsz⟩ := Option.map_eq_some_iff.1 he
  have ha : (⟨b, o, none⟩ : Addr).add (n * sz) = ⟨b, o + n * sz, none⟩ := by unfold Addr.add; split <;> simp_all
  simp [execOp, h x _ hx, h i _ hi, Instr.indexAt, asIntOf, run_underlying hu, sizeOf, typeInfo, hin, hsz, hlt, ha]
theorem run_isAgg {t : TypeId} {b : Bool} (ht : aggB P t = some b) (w : World) : (isAgg t).run P w = .ok b w := by
  obtain ⟨d, hd, hb⟩ := Option.map_eq_some_iff.1 ht
  subst hb
  cases d <;> simp [isAgg, run_underlying hd]
theorem ex_load1 {x : Operand} {t : TypeId} {b o : Nat} {v : Value} (hx : σ.ev x = some (.pointer (some ⟨b, o, none⟩))) (ht : aggB P t = some false) (hc : w.cell? ⟨b, o, none⟩ = some v) :
    Ex P σ ⟨dst, .load t x, T, pos, after, g⟩ w v w := fun ρ h => by
  simp [execOp, h x _ hx, Instr.loadAt, Instr.sureAddr, loadVar, run_isAgg ht, hc]
theorem cell_blk {b o : Nat} {cs : Array Value} {t : TypeId} {fz : Nat × Nat} {v : Value} (hb : w.heap[b]? = some (.cells cs t fz)) (hv : cs[o]? = some v) : w.cell? ⟨b, o, none⟩ = some v := by
  simp [World.cell?, hb, hv]
def nth : List Value → Nat → Option Value
  | [], _ => none
  | a :: _, 0 => some a
  | _ :: l, n + 1 => nth l n
theorem nth_eq : ∀ (l : List Value) (n : Nat), nth l n = l[n]?
  | [], _ => by simp [nth]
  | _ :: _, 0 => by simp [nth]
  | _ :: l, n + 1 => by simp [nth, nth_eq l n]
theorem cell_nth {b o : Nat} {cs : Array Value} {t : TypeId} {fz : Nat × Nat} {v : Value} (hb : w.heap[b]? = some (.cells cs t fz)) (hv : nth cs.toList o = some v) : w.cell? ⟨b, o, none⟩ = some v :=
  cell_blk hb (by rw [nth_eq] at hv; simpa using hv)
theorem run_loadCellsFrom (b o : Nat) : ∀ (n i : Nat) (acc : Array Value) (vs : List Value), vs.length = n → (∀ j v, vs[j]? = some v → w.cell? ⟨b, o + (i + j), none⟩ = some v) →
    (loadCellsFrom ⟨b, o, none⟩ i n acc).run P w = .ok (acc ++ vs.toArray) w := by
  intro n
  induction n with
  | zero => intro i acc vs hl _; have : vs = [] := List.eq_nil_of_length_eq_zero hl; subst this; simp [loadCellsFrom]
  | succ n ih =>
    intro i acc vs hl hc
    cases vs with
    | nil => simp at hl
    | cons v vs =>
      have h0 := hc 0 v (by simp)
      have hadd : (⟨b, o, none⟩ : Addr).add i = ⟨b, o + (i + 0), none⟩ := by unfold Addr.add; split <;> simp_all
      have := ih (i + 1) (acc.push v) vs (by simpa using hl) (fun j u hu => by have := hc (j + 1) u (by simpa using hu); rw [show i + 1 + j = i + (j + 1) from by omega]; exact this)
      simp only [Nat.add_zero] at h0 hadd
      simp [loadCellsFrom, hadd, h0, this]
theorem ex_loadA {x : Operand} {t : TypeId} {b o n : Nat} {vs : List Value} (hx : σ.ev x = some (.pointer (some ⟨b, o, none⟩))) (ht : aggB P t = some true) (hs : sizeB P t = some n) (hl : vs.length = n)
    (hc : ∀ j v, vs[j]? = some v → w.cell? ⟨b, o + j, none⟩ = some v) : Ex P σ ⟨dst, .load t x, T, pos, after, g⟩ w (.agg vs.toArray) w := fun ρ h => by
  obtain ⟨inf, hin, hsz⟩ := Option.map_eq_some_iff.1 hs
  have hr := run_loadCellsFrom (P := P) (w := w) b o n 0 #[] vs hl (fun j v hv => by simpa using hc j v hv)
  simp [execOp, h x _ hx, Instr.loadAt, Instr.sureAddr, loadVar, run_isAgg ht, sizeOf, typeInfo, hin, hsz, loadCells, hr]
end
section
variable {P : Program} {σ : Env} {w : World} {dst : Option Nat} {T : TypeId} {pos : String} {after : Array Edge} {g : Option (Nat × Bool)}
end
theorem run_part1 {P : Program} {t : TypeId} {cs : Array Value} {off : Nat} {v : Value} (w : World) (ht : aggB P t = some false) (hv : cs[off]? = some v) : (part t cs off).run P w = .ok v w := by
  simp [part, run_isAgg ht, hv]
def zeroB (P : Program) (t : TypeId) : Option (Array Value) := ((P.info? t).bind (·.zero)).map Value.cells
theorem set_row (cs : Array Value) (o : Nat) (v : Value) (h : o < cs.size) : (cs.toList.take o ++ #[v].toList ++ cs.toList.drop (o + 1)).toArray = cs.setIfInBounds o v := by
  apply Array.toList_inj.1
  simp [List.set_eq_take_append_cons_drop, h]
theorem alloc_blk (w : World) (o : Obj) : (w.alloc o).heap[w.heap.size]? = some o := heap_alloc_new w o
theorem run_storeCells {P : Program} (b : Nat) (t : TypeId) : ∀ (vs : List Value) (o i : Nat) (cs : Array Value) (w : World), w.heap[b]? = some (.cells cs t (0, 0)) → o + i + vs.length ≤ cs.size → (∀ v, v ∈ vs → v.oneCell' = true) →
    ∃ w', (storeCells ⟨b, o, none⟩ vs i).run P w = .ok () w' ∧ w'.heap[b]? = some (.cells (cs.toList.take (o + i) ++ vs ++ cs.toList.drop (o + i + vs.length)).toArray t (0, 0)) ∧ Evo [b] w w' := by
  intro vs
  induction vs with
  | nil => intro o i cs w hb _ _; exact ⟨w, by simp [storeCells], by simpa using hb, Evo.refl _ _⟩
  | cons v vs ih =>
    intro o i cs w hb hle h1
    have hadd : (⟨b, o, none⟩ : Addr).add i = ⟨b, o + i, none⟩ := by unfold Addr.add; split <;> simp_all
    have hlt : o + i < cs.size := by simp at hle; omega
    have hc : w.cell? ⟨b, o + i, none⟩ = some cs[o + i] := cell_blk hb (by simp [hlt])
    have hfz : w.frozen? ⟨b, o + i, none⟩ = false := by simp [World.frozen?, hb]
    have hb1 : (w.setCell ⟨b, o + i, none⟩ v).heap[b]? = some (.cells (cs.setIfInBounds (o + i) v) t (0, 0)) := by
      simp only [World.setCell, Array.getElem?_modify, if_true, hb, Option.map_some]; rfl
    obtain ⟨w', hr, hb', he⟩ := ih o (i + 1) _ _ hb1 (by simp at hle ⊢; omega) (fun u hu => h1 u (List.mem_cons_of_mem _ hu))
    refine ⟨w', ?_, ?_, (evo_setCell w ⟨b, o + i, none⟩ v).trans he⟩
    · simp [storeCells, hadd, run_store P w _ v .plain (h1 v (by simp)), hc, hfz, hr]
    · rw [hb']
      congr 3
      apply List.ext_getElem?
      intro j
      simp only [Array.toList_setIfInBounds, List.append_assoc, List.getElem?_append, List.length_take, List.length_set, Array.length_toList, List.getElem?_take, List.getElem?_drop, List.length_cons, List.getElem?_set]
      by_cases h2 : j < o + i
      · simp [h2, show j < o + (i + 1) by omega, show j < min (o + (i + 1)) cs.size by omega, show j < min (o + i) cs.size by omega, show ¬ o + i = j by omega]
      · by_cases h3 : j = o + i
        · subst h3
          simp [show o + i < o + (i + 1) by omega, show o + i < min (o + (i + 1)) cs.size by omega, show ¬ (o + i < min (o + i) cs.size) by omega, hlt, show o + i - min (o + i) cs.size = 0 by omega]
        · simp only [show ¬ j < min (o + (i + 1)) cs.size by omega, show ¬ j < min (o + i) cs.size by omega, if_false]
          rw [show min (o + (i + 1)) cs.size = o + i + 1 by omega, show min (o + i) cs.size = o + i by omega]
          obtain ⟨m, rfl⟩ : ∃ m, j = o + i + 1 + m := ⟨j - (o + i + 1), by omega⟩
          rw [show o + i + 1 + m - (o + i + 1) = m by omega, show o + i + 1 + m - (o + i) = m + 1 by omega]
          simp only [List.getElem?_cons_succ, Nat.add_lt_add_iff_right, Nat.add_sub_add_right]
          split
          · rfl
          · rename_i h4
            rw [if_neg (by omega)]
            congr 1
            omega
section
variable {P : Program} {N : NN} {R : Post} {σ : Env} {w : World} {ops : Array Oper} {rest : List Oper} {d : Nat} {T : TypeId} {pos : String} {after : Array Edge}
theorem ex_loadBlk {x : Operand} {t U : TypeId} {b n : Nat} {cs : Array Value} {fz : Nat × Nat} {dst : Option Nat} {g : Option (Nat × Bool)} (hx : σ.ev x = some (.pointer (some ⟨b, 0, none⟩))) (ht : aggB P t = some true) (hs : sizeB P t = some n)
    (hb : w.heap[b]? = some (.cells cs U fz)) (hl : cs.size = n) : Ex P σ ⟨dst, .load t x, T, pos, after, g⟩ w (.agg cs) w := by
  have := ex_loadA (P := P) (σ := σ) (w := w) (dst := dst) (T := T) (pos := pos) (after := after) (g := g) (vs := cs.toList) hx ht hs (by simpa using hl) (fun j v hv => cell_blk hb (by simpa using hv))
  simpa using this
theorem wl_box {e : TypeId} {x : Operand} {v : Value} {cs : Array Value} (hd : Nat.blt d N.1 = true) (hx : σ.ev x = some v) (hc : v.cells = cs)
    (h : ∀ b w', w'.heap[b]? = some (.cells cs e (0, 0)) → w.heap.size = b → Evo [] w w' → WL P N ops R rest ((d, .pointer (some ⟨b, 0, none⟩)) :: σ) w') :
    WL P N ops R (⟨some d, .box e x, T, pos, after, none⟩ :: rest) σ w := by
  subst hc
  refine wl_val (w' := w.alloc (.cells v.cells e)) hd (fun ρ ha => ?_) (h _ _ (alloc_blk w _) rfl (evo_alloc w _))
  simp [execOp, ha x v hx, Instr.box, newVar, newRow]
theorem wl_boxA {e : TypeId} {x : Operand} {cs : Array Value} (hd : Nat.blt d N.1 = true) (hx : σ.ev x = some (.agg cs))
    (h : ∀ b w', w'.heap[b]? = some (.cells cs e (0, 0)) → w.heap.size = b → Evo [] w w' → WL P N ops R rest ((d, .pointer (some ⟨b, 0, none⟩)) :: σ) w') :
    WL P N ops R (⟨some d, .box e x, T, pos, after, none⟩ :: rest) σ w := wl_box hd hx rfl h
theorem wl_alloc {e : TypeId} {cs : Array Value} (hd : Nat.blt d N.1 = true) (hz : zeroB P e = some cs)
    (h : ∀ b w', w'.heap[b]? = some (.cells cs e (0, 0)) → w.heap.size = b → Evo [] w w' → WL P N ops R rest ((d, .pointer (some ⟨b, 0, none⟩)) :: σ) w') :
    WL P N ops R (⟨some d, .alloc e, T, pos, after, none⟩ :: rest) σ w := by
  obtain ⟨v, hv, rfl⟩ := Option.map_eq_some_iff.1 hz
  obtain ⟨i, hi, hz'⟩ := Option.bind_eq_some_iff.1 hv
  refine wl_val (w' := w.alloc (.cells v.cells e)) hd (fun ρ _ => ?_) (h _ _ (alloc_blk w _) rfl (evo_alloc w _))
  simp [execOp, Instr.alloc, zeroValue, typeInfo, hi, hz', newVar, newRow]
theorem wl_storeG {t U : TypeId} {x y : Operand} {v : Value} {b o n : Nat} {cs : Array Value} (hx : σ.ev x = some (.pointer (some ⟨b, o, none⟩))) (hy : σ.ev y = some v) (hs : sizeB P t = some n) (hn : v.cells.size = n)
    (h1 : ∀ u, u ∈ v.cells.toList → u.oneCell' = true) (hb : w.heap[b]? = some (.cells cs U (0, 0))) (hle : o + n ≤ cs.size)
    (h : ∀ w', w'.heap[b]? = some (.cells (cs.toList.take o ++ v.cells.toList ++ cs.toList.drop (o + n)).toArray U (0, 0)) → Evo [b] w w' → WL P N ops R rest σ w') :
    WL P N ops R (⟨none, .store t x y, T, pos, after, none⟩ :: rest) σ w := by
  obtain ⟨i, hi, hsz⟩ := Option.map_eq_some_iff.1 hs
  obtain ⟨w', hr, hb', he⟩ := run_storeCells (P := P) b U v.cells.toList o 0 cs w hb (by simpa [hn] using hle) h1
  refine wl_skip (w' := w') (fun ρ ha => ?_) (h w' (by simpa [hn] using hb') he)
  simp [execOp, ha x _ hx, ha y _ hy, Instr.storeAt, Instr.sureAddr, storeVar, sizeOf, typeInfo, hi, hsz, hn, hr]
theorem wl_store1 {t U : TypeId} {x y : Operand} {v : Value} {b o : Nat} {cs : Array Value} (hx : σ.ev x = some (.pointer (some ⟨b, o, none⟩))) (hy : σ.ev y = some v) (h1 : v.oneCell' = true) (hs : sizeB P t = some 1)
    (hb : w.heap[b]? = some (.cells cs U (0, 0))) (hle : Nat.blt o cs.size = true)
    (h : ∀ w', w'.heap[b]? = some (.cells (cs.setIfInBounds o v) U (0, 0)) → Evo [b] w w' → WL P N ops R rest σ w') :
    WL P N ops R (⟨none, .store t x y, T, pos, after, none⟩ :: rest) σ w := by
  have hc : v.cells = #[v] := by cases v <;> first | rfl | cases h1
  have hlt : o < cs.size := of_decide_eq_true (by simpa using hle)
  refine wl_storeG hx hy hs (by simp [hc]) (by simp [hc, h1]) hb (by omega) (fun w' hb' he => h w' ?_ he)
  rw [hb', hc]
  have e := set_row cs o v hlt
  simp only at e ⊢
  rw [e]
def AllOne : List Value → Prop
  | [] => True
  | v :: r => v.oneCell' = true ∧ AllOne r
theorem AllOne.mem {l : List Value} (h : AllOne l) : ∀ u, u ∈ l → u.oneCell' = true := by
  induction l with
  | nil => intro u hu; cases hu
  | cons v l ih =>
    intro u hu
    rcases List.mem_cons.1 hu with rfl | hu
    · exact h.1
    · exact ih h.2 u hu
theorem wl_storeBlk {t U : TypeId} {x y : Operand} {b n : Nat} {cs vs : Array Value} (hx : σ.ev x = some (.pointer (some ⟨b, 0, none⟩))) (hy : σ.ev y = some (.agg vs)) (hs : sizeB P t = some n)
    (hb : w.heap[b]? = some (.cells cs U (0, 0))) (hn : vs.size = n) (hn' : cs.size = n) (h1 : AllOne vs.toList)
    (h : ∀ w', w'.heap[b]? = some (.cells vs U (0, 0)) → Evo [b] w w' → WL P N ops R rest σ w') :
    WL P N ops R (⟨none, .store t x y, T, pos, after, none⟩ :: rest) σ w := by
  refine wl_storeG hx hy hs hn (fun u hu => h1.mem u hu) hb (by omega) (fun w' hb' he => h w' ?_ he)
  rw [hb']
  simp only [List.take_zero, List.nil_append, Nat.zero_add]
  rw [List.drop_of_length_le (by simp; omega)]
  simp [Value.cells]
end
def CellsAt (w : World) (b o : Nat) (vs : List Value) : Prop := ∀ j v, vs[j]? = some v → w.cell? ⟨b, o + j, none⟩ = some v
theorem CellsAt.evo {X : List Nat} {w w' : World} {b o : Nat} {vs : List Value} (h : CellsAt w b o vs) (he : Evo X w w') (hb : b ∉ X) : CellsAt w' b o vs := fun j v hv => he.cell (h j v hv) hb
def intB (P : Program) (t : TypeId) : Option Bool := (P.underlying t).map fun | .int _ => true | _ => false
def Own (w : World) (e : TypeId) (sz : Nat) (v : Value) (n : Nat) (xs : List Value) (ob : Option Nat) : Prop :=
  xs.length = n * sz ∧ ((v = .slice none 0 0 ∧ n = 0 ∧ ob = none) ∨
    ∃ g cap cur, ob = some g ∧ v = .slice (some ⟨g, 0, none⟩) n cap ∧ w.heap[g]? = some (.cells cur e (0, 0)) ∧ n ≤ cap ∧ cap ≤ maxLen ∧ cur.size = cap * sz ∧ cur.toList.take (n * sz) = xs)
structure Src (P : Program) (w : World) (sz : Nat) (x : Value) (m : Nat) (news : List Value) : Prop where
  len : ∀ w2, (Builtin.lenOf x).run P w2 = .ok m w2
  cells : ∀ w2 : World, w2.heap = w.heap → (Builtin.firstCells sz m x).run P w2 = .ok news.toArray w2
  length : news.length = m * sz
  one : ∀ u, u ∈ news → u.oneCell' = true
theorem Src.nil {P : Program} {w : World} {sz : Nat} : Src P w sz (.slice none 0 0) 0 [] :=
  ⟨fun _ => rfl, fun _ _ => rfl, by simp, fun _ h => by cases h⟩
theorem Src.slice {P : Program} {w : World} {sz b o m c : Nat} {news : List Value} (hl : news.length = m * sz) (hc : CellsAt w b o news) (h1 : ∀ u, u ∈ news → u.oneCell' = true) : Src P w sz (.slice (some ⟨b, o, none⟩) m c) m news :=
  ⟨fun _ => rfl, fun w2 h2 => run_firstCells_some (P := P) w2 sz m ⟨b, o, none⟩ m c news hl (fun j v hv => by
    have hadd : (⟨b, o, none⟩ : Addr).add j = ⟨b, o + j, none⟩ := by unfold Addr.add; split <;> simp_all
    rw [hadd, show w2.cell? ⟨b, o + j, none⟩ = w.cell? ⟨b, o + j, none⟩ from by simp [World.cell?, h2]]
    exact hc j v hv), hl, h1⟩
theorem run_append {P : Program} {w : World} {t u ty e : TypeId} {i : TypeInfo} {z : Value} {sz bytes : Nat} (ht : P.underlying t = some (.slice e)) (hu : intB P u = some false) (hi : P.info? e = some i) (hz : i.zero = some z)
    (hsize : i.size = sz) (hby : i.bytes = bytes) (hb0 : 0 < bytes) (hzs : z.cells.size = sz) {v x : Value} {n m : Nat} {xs news : List Value} {ob : Option Nat} (hown : Own w e sz v n xs ob) (hsrc : Src P w sz x m news)
    (hbytes : (n + m) * bytes ≤ 140737488355328) :
    ∃ v' w' ob', (Builtin.append_ #[t, u] ty #[v, x]).run P w = .ok v' w' ∧ Own w' e sz v' (n + m) (xs ++ news) ob' ∧ Evo ob.toList w w' ∧ (ob' = ob ∨ ∃ g, ob' = some g ∧ w.heap.size ≤ g ∧ Evo [] w w') := by
  subst hsize hby
  obtain ⟨du, hdu, hdb⟩ := Option.map_eq_some_iff.1 hu
  have hmul : n + m ≤ (n + m) * i.bytes := Nat.le_mul_of_pos_right _ hb0
  have h63 : n + m ≤ 140737488355328 := Nat.le_trans hmul hbytes
  have hlen : (xs ++ news).length = (n + m) * i.size := by rw [List.length_append, hown.1, hsrc.length, Nat.add_mul]
  have hnz : ∀ k, du ≠ .int k := fun k hk => by subst hk; simp at hdb
  have grown : ∀ old, old < n + m → ∃ w', w' = w.drew.alloc (.cells (xs.toArray ++ news.toArray ++ Builtin.zeroCells z.cells (grownCap w (n + m) old e - (n + m))) e) ∧
      Own w' e i.size (.slice (some ⟨w.heap.size, 0, none⟩) (n + m) (grownCap w (n + m) old e)) (n + m) (xs ++ news) (some w.heap.size) ∧ Evo [] w w' := by
    intro old ho
    refine ⟨_, rfl, ⟨hlen, .inr ⟨w.heap.size, _, _, rfl, rfl, heap_alloc_new w.drew _, grownCap_ge w (n + m) old e, grownCap_le_maxLen w (n + m) old e (by unfold maxLen; omega), ?_, ?_⟩⟩, ⟨rfl, rfl, rfl, by simp, fun k hk _ => RowKit.Below.heap_alloc w.drew _ k hk⟩⟩
    · have hge := grownCap_ge w (n + m) old e
      simp only [Array.size_append, List.size_toArray, size_zeroCells, hzs, hown.1, hsrc.length, ← Nat.add_mul]
      congr 1
      omega
    · simp only [Array.toList_append, List.append_assoc]
      rw [← List.append_assoc, ← hlen]
      exact List.take_left
  rcases hown.2 with ⟨rfl, rfl, rfl⟩ | ⟨g, cap, cur, rfl, rfl, hg, hnc, hcm, hcs, htake⟩
  · have hx : xs = [] := List.eq_nil_of_length_eq_zero (by simpa using hown.1)
    subst hx
    by_cases hm : m = 0
    · subst hm
      have hn : news = [] := List.eq_nil_of_length_eq_zero (by simpa using hsrc.length)
      subst hn
      refine ⟨.slice none 0 0, w, none, ?_, ⟨by simp, .inl ⟨rfl, rfl, rfl⟩⟩, Evo.refl _ _, .inl rfl⟩
      have hc := hsrc.cells w rfl
      simp only [Builtin.append_, run_underlying ht, run_underlying hdu, sizeOf, typeInfo, hi, List.getElem?_toArray, List.getElem?_cons_zero, List.getElem?_cons_succ, Sem.run_bind, Sem.run_pure, Result.andThen_ok, run_program]
      simp [hi, hsrc.len, hc]
    · obtain ⟨w', hw', ho', he'⟩ := grown 0 (by omega)
      refine ⟨_, w', some w.heap.size, ?_, ho', he'.any _, .inr ⟨_, rfl, Nat.le_refl _, he'⟩⟩
      have hc := hsrc.cells w.drew rfl
      have hfit := growslice_fits (need := 0 + m) (old := 0) (by omega) hbytes
      simp only [Nat.zero_add] at hfit
      simp only [Builtin.append_, run_underlying ht, run_underlying hdu, sizeOf, typeInfo, hi, List.getElem?_toArray, List.getElem?_cons_zero, List.getElem?_cons_succ, Sem.run_bind, Sem.run_pure, Result.andThen_ok, run_program]
      simp [hi, hz, zeroValue, typeInfo, hsrc.len, hc, hm, show ¬ (9223372036854775807 < (m : Int)) by omega, show ¬ (281474976710656 < Builtin.nextslicecap m 0 * i.bytes) by omega, Question.forced, run_firstCells_none, newRow, grownCap, hw']
  · by_cases hroom : n + m ≤ cap
    · have hfit : n * i.size + 0 + news.length ≤ cur.size := by rw [hsrc.length, hcs, Nat.add_zero, ← Nat.add_mul]; exact Nat.mul_le_mul_right _ hroom
      obtain ⟨w', hr, hb', he'⟩ := run_storeCells (P := P) g e news (n * i.size) 0 cur w hg hfit hsrc.one
      refine ⟨.slice (some ⟨g, 0, none⟩) (n + m) cap, w', some g, ?_, ⟨hlen, .inr ⟨g, cap, _, rfl, rfl, hb', hroom, hcm, ?_, ?_⟩⟩, he', .inl rfl⟩
      · have hc := hsrc.cells w rfl
        have hadd : (⟨g, 0, none⟩ : Addr).add (n * i.size) = ⟨g, n * i.size, none⟩ := by unfold Addr.add; split <;> simp_all
        simp only [Builtin.append_, run_underlying ht, run_underlying hdu, sizeOf, typeInfo, hi, List.getElem?_toArray, List.getElem?_cons_zero, List.getElem?_cons_succ, Sem.run_bind, Sem.run_pure, Result.andThen_ok, run_program]
        simp [hi, hsrc.len, hc, hroom, hadd, hr]
      · simp only [List.size_toArray, List.length_append, List.length_take, List.length_drop, Array.length_toList]
        omega
      · simp only [Nat.add_zero] at htake ⊢
        rw [htake, ← hlen]
        exact List.take_left
    · obtain ⟨w', hw', ho', he'⟩ := grown cap (by omega)
      refine ⟨_, w', some w.heap.size, ?_, ho', he'.any _, .inr ⟨_, rfl, Nat.le_refl _, he'⟩⟩
      have hc := hsrc.cells w.drew rfl
      have hold := run_firstCells_some (P := P) w.drew i.size n ⟨g, 0, none⟩ n cap xs hown.1 (fun j v hv => by
        have hadd : (⟨g, 0, none⟩ : Addr).add j = ⟨g, j, none⟩ := by unfold Addr.add; split <;> simp_all
        rw [hadd]
        refine cell_blk hg ?_
        rw [← htake, List.getElem?_take] at hv
        split at hv
        · simpa using hv
        · cases hv)
      have hfit := growslice_fits (need := n + m) (old := cap) (by omega) hbytes
      simp only [Builtin.append_, run_underlying ht, run_underlying hdu, sizeOf, typeInfo, hi, List.getElem?_toArray, List.getElem?_cons_zero, List.getElem?_cons_succ, Sem.run_bind, Sem.run_pure, Result.andThen_ok, run_program]
      simp [hi, hz, zeroValue, typeInfo, hsrc.len, hc, hold, hroom, show ¬ (9223372036854775807 < (n : Int) + (m : Int)) by omega, show ¬ (281474976710656 < Builtin.nextslicecap (n + m) cap * i.bytes) by omega, Question.forced, newRow, grownCap, hw']
      rw [← Array.append_assoc, show xs.toArray ++ news.toArray = (xs ++ news).toArray from by simp]
def OwnS (w : World) (e : TypeId) (sz : Nat) (a : Option Addr) (n c : Nat) (xs : List Value) (ob : Option Nat) : Prop := Own w e sz (.slice a n c) n xs ob
theorem OwnS.nil (w : World) (e : TypeId) (sz : Nat) : OwnS w e sz none 0 0 [] none := ⟨by simp, .inl ⟨rfl, rfl, rfl⟩⟩
theorem OwnS.lt {w : World} {e : TypeId} {sz : Nat} {a : Option Addr} {n c : Nat} {xs : List Value} {g : Nat} (h : OwnS w e sz a n c xs (some g)) : g < w.heap.size := by
  rcases h.2 with ⟨_, _, h⟩ | ⟨g', _, _, hg, _, hb, _⟩
  · cases h
  · cases hg; exact blk_lt hb
theorem OwnS.evo {X : List Nat} {w w' : World} {e : TypeId} {sz : Nat} {a : Option Addr} {n c : Nat} {xs : List Value} {ob : Option Nat} (h : OwnS w e sz a n c xs ob) (he : Evo X w w') (hx : ∀ g, ob = some g → g ∉ X) : OwnS w' e sz a n c xs ob := by
  refine ⟨h.1, ?_⟩
  rcases h.2 with h1 | ⟨g, cap, cur, hg, hv, hb, r⟩
  · exact .inl h1
  · exact .inr ⟨g, cap, cur, hg, hv, he.blk hb (hx g hg), r⟩
theorem OwnS.evo0 {w w' : World} {e : TypeId} {sz : Nat} {a : Option Addr} {n c : Nat} {xs : List Value} {ob : Option Nat} (h : OwnS w e sz a n c xs ob) (he : Evo [] w w') : OwnS w' e sz a n c xs ob := h.evo he (fun _ _ h => by cases h)
theorem OwnS.length {w : World} {e : TypeId} {sz : Nat} {a : Option Addr} {n c : Nat} {xs : List Value} {ob : Option Nat} (h : OwnS w e sz a n c xs ob) : xs.length = n * sz := h.1
theorem OwnS.le {w : World} {e : TypeId} {sz : Nat} {a : Option Addr} {n c : Nat} {xs : List Value} {ob : Option Nat} (h : OwnS w e sz a n c xs ob) : n ≤ c := by
  rcases h.2 with ⟨h1, rfl, _⟩ | ⟨g, cap, cur, _, hv, _, hn, _⟩
  · omega
  · cases hv; exact hn
theorem OwnS.at {w : World} {e : TypeId} {sz : Nat} {a : Option Addr} {n c : Nat} {xs : List Value} {ob : Option Nat} (h : OwnS w e sz a n c xs ob) (h0 : 0 < n) : ∃ g cur, ob = some g ∧ a = some ⟨g, 0, none⟩ ∧ w.heap[g]? = some (.cells cur e (0, 0)) ∧ cur.size = c * sz ∧ cur.toList.take (n * sz) = xs := by
  rcases h.2 with ⟨_, rfl, _⟩ | ⟨g, cap, cur, hg, hv, hb, hn, hc, hs, ht⟩
  · omega
  · cases hv; exact ⟨g, cur, hg, rfl, hb, hs, ht⟩
theorem OwnS.cells {w : World} {e : TypeId} {sz : Nat} {a : Option Addr} {n c : Nat} {xs : List Value} {ob : Option Nat} (h : OwnS w e sz a n c xs ob) (h0 : 0 < n) : ∃ g, ob = some g ∧ a = some ⟨g, 0, none⟩ ∧ CellsAt w g 0 xs := by
  obtain ⟨g, cur, hg, ha, hb, _, ht⟩ := h.at h0
  refine ⟨g, hg, ha, fun j v hv => cell_blk hb ?_⟩
  rw [← ht, List.getElem?_take] at hv
  split at hv
  · simpa using hv
  · cases hv
def appB (P : Program) (t u : TypeId) : Option (TypeId × Nat × Nat) :=
  match P.underlying t with
  | some (.slice e) => match P.info? e with
    | some i => match i.zero with
      | some z => if z.cells.size = i.size ∧ 0 < i.bytes ∧ intB P u = some false then some (e, i.size, i.bytes) else none
      | none => none
    | none => none
  | _ => none
section
variable {P : Program} {N : NN} {R : Post} {σ : Env} {w : World} {ops : Array Oper} {rest : List Oper} {d : Nat} {T : TypeId} {pos : String} {after : Array Edge}
theorem wl_appendS {s x : Operand} {t u e : TypeId} {ats : Array TypeId} {sz bytes n m c : Nat} {a : Option Addr} {vx : Value} {xs news : List Value} {ob : Option Nat} (hd : Nat.blt d N.1 = true) (hs : σ.ev s = some (.slice a n c)) (hx : σ.ev x = some vx) (hats : ats = #[t, u])
    (hf : appB P t u = some (e, sz, bytes)) (hown : OwnS w e sz a n c xs ob) (hsrc : Src P w sz vx m news) (hbytes : (n + m) * bytes ≤ 140737488355328)
    (h : ∀ a' c' w' ob', OwnS w' e sz a' (n + m) c' (xs ++ news) ob' → Evo ob.toList w w' → (ob' = ob ∨ ∃ g, ob' = some g ∧ w.heap.size ≤ g ∧ Evo [] w w') → WL P N ops R rest ((d, .slice a' (n + m) c') :: σ) w') :
    WL P N ops R (⟨some d, .call ⟨.builtin .append, #[s, x], ats⟩, T, pos, after, none⟩ :: rest) σ w := by
  subst hats
  simp only [appB] at hf
  split at hf <;> try cases hf
  rename_i e' ht
  split at hf <;> try cases hf
  rename_i i hi
  split at hf <;> try cases hf
  rename_i z hz
  split at hf <;> try cases hf
  rename_i hc
  obtain ⟨v', w', ob', hr, ho, he, hob⟩ := run_append (ty := T) ht hc.2.2 hi hz rfl rfl hc.2.1 hc.1 hown hsrc hbytes
  have hv : ∃ a' c', v' = .slice a' (n + m) c' := by
    rcases ho.2 with ⟨h1, h2, _⟩ | ⟨g, cap, _, _, h1, _⟩
    · exact ⟨none, 0, by rw [h1, h2]⟩
    · exact ⟨_, _, h1⟩
  obtain ⟨a', c', rfl⟩ := hv
  refine wl_val (w' := w') hd (fun ρ ha => ?_) (h a' c' w' ob' ho he hob)
  simp [execOp, resolve, ha s _ hs, ha x _ hx, invoke, builtin, hr]
theorem wl_append {s x : Operand} {t u e : TypeId} {ats : Array TypeId} {sz bytes n m c : Nat} {a : Option Addr} {vx : Value} {xs news : List Value} {ob : Option Nat} (hd : Nat.blt d N.1 = true) (hs : σ.ev s = some (.slice a n c)) (hx : σ.ev x = some vx) (hats : ats = #[t, u])
    (hf : appB P t u = some (e, sz, bytes)) (hown : OwnS w e sz a n c xs ob) (hsrc : Src P w sz vx m news) (hbytes : (n + m) * bytes ≤ 140737488355328)
    (h : ∀ a' c' w' ob', OwnS w' e sz a' (n + m) c' (xs ++ news) ob' → Evo ob.toList w w' → (ob' = ob ∨ ∃ g, ob' = some g ∧ w.heap.size ≤ g) → WL P N ops R rest ((d, .slice a' (n + m) c') :: σ) w') :
    WL P N ops R (⟨some d, .call ⟨.builtin .append, #[s, x], ats⟩, T, pos, after, none⟩ :: rest) σ w :=
  wl_appendS hd hs hx hats hf hown hsrc hbytes fun a' c' w' ob' h1 h2 h3 => h a' c' w' ob' h1 h2 (h3.imp id fun ⟨g, k1, k2, _⟩ => ⟨g, k1, k2⟩)
theorem fill_row (sz : Nat) : ∀ (vs : List Value) (k : Nat) (pre post : List Value), (∀ v, v ∈ vs → v.cells.size = sz) → pre.length = k * sz → post.length = vs.length * sz →
    Instr.fill (fun i => some (i * sz, sz)) (pre ++ post).toArray ((vs.zipIdx k).map fun p => (p.2, p.1)) = some (pre ++ vs.flatMap (fun v => v.cells.toList)).toArray := by
  intro vs
  induction vs with
  | nil => intro k pre post _ _ hpost; have : post = [] := List.eq_nil_of_length_eq_zero (by simpa using hpost); subst this; simp [Instr.fill]
  | cons v vs ih =>
    intro k pre post hsz hpre hpost
    have hv := hsz v (by simp)
    have hpl : post.length = sz + vs.length * sz := by rw [hpost, List.length_cons, Nat.add_mul]; omega
    have key : ∀ (l : List Value) (j : Nat) (p q : List Value), p.length = k * sz + j → l.length ≤ q.length →
        (l.zipIdx j).foldl (fun (cs : Array Value) x => cs.setIfInBounds (k * sz + x.2) x.1) (p ++ q).toArray = (p ++ l ++ q.drop l.length).toArray := by
      intro l
      induction l with
      | nil => intro j p q _ _; simp
      | cons c l ihl =>
        intro j p q hp hq
        cases q with
        | nil => simp at hq
        | cons q0 q =>
          have := ihl (j + 1) (p ++ [c]) q (by simp [hp]; omega) (by simpa using hq)
          simp only [List.zipIdx_cons, List.foldl_cons, List.setIfInBounds_toArray]
          rw [show (p ++ q0 :: q).set (k * sz + j) c = p ++ [c] ++ q from by rw [← hp]; simp]
          simpa using this
    have hk := key v.cells.toList 0 pre post (by simpa using hpre) (by simp [hv]; omega)
    simp only [List.zipIdx_cons, List.map_cons, Instr.fill]
    rw [if_neg (by simp [hv, hpre, hpl])]
    rw [← Array.foldl_toList, Array.toList_zipIdx, hk]
    have h2 := ih (k + 1) (pre ++ v.cells.toList) (post.drop v.cells.toList.length) (fun u hu => hsz u (List.mem_cons_of_mem _ hu)) (by simp [hpre, hv, Nat.add_mul]) (by simp [hv, hpl])
    rw [h2]
    simp
def sliceB (P : Program) (t : TypeId) : Option (TypeId × Nat) :=
  match P.underlying t with
  | some (.slice e) => match P.info? e with
    | some i => match i.zero with
      | some z => if z.cells.size = i.size then some (e, i.size) else none
      | none => none
    | none => none
  | _ => none
theorem wl_bslice {t e : TypeId} {sz len : Nat} {parts : Array (Nat × Operand)} {vs : List Value} (hd : Nat.blt d N.1 = true) (hf : sliceB P t = some (e, sz)) (hp : parts.toList.map (fun p => (p.1, σ.ev p.2)) = vs.zipIdx.map (fun q => (q.2, some q.1)))
    (hlen : vs.length = len) (hsz : vs.all (fun v => Nat.beq v.cells.size sz) = true) (hle : Nat.ble (len * sz + len) 16777216 = true)
    (h : ∀ b w', OwnS w' e sz (some ⟨b, 0, none⟩) len len (vs.flatMap fun v => v.cells.toList) (some b) → w.heap.size = b → Evo [] w w' → WL P N ops R rest ((d, .slice (some ⟨b, 0, none⟩) len len) :: σ) w') :
    WL P N ops R (⟨some d, .buildSlice t len parts, T, pos, after, none⟩ :: rest) σ w := by
  simp only [sliceB] at hf
  split at hf <;> try cases hf
  rename_i e' ht
  split at hf <;> try cases hf
  rename_i i hi
  split at hf <;> try cases hf
  rename_i z hz
  split at hf <;> try cases hf
  rename_i hc
  have hvs : ∀ v, v ∈ vs → v.cells.size = i.size := fun v hv => Nat.eq_of_beq_eq_true (List.all_eq_true.1 hsz v hv)
  have hfl : (vs.flatMap fun v => v.cells.toList).length = len * i.size := by
    rw [← hlen]; clear hp hlen hsz hle h
    induction vs with
    | nil => simp
    | cons v vs ih => simp [ih (fun u hu => hvs u (List.mem_cons_of_mem _ hu)), hvs v (by simp), Nat.add_mul]; omega
  have hle' : len * i.size + len ≤ 16777216 := Nat.le_of_ble_eq_true hle
  refine wl_val (w' := w.alloc (.cells (vs.flatMap fun v => v.cells.toList).toArray e)) hd (fun ρ ha => ?_) (h w.heap.size _ ⟨hfl, .inr ⟨w.heap.size, len, _, rfl, rfl, heap_alloc_new w _, Nat.le_refl _, ?_, by simp [hfl], ?_⟩⟩ rfl (evo_alloc w _))
  · have hparts : (parts.map fun p => (p.1, ρ p.2)).toList = (vs.zipIdx 0).map fun p => (p.2, p.1) := by
      rw [Array.toList_map]
      clear h hlen hsz hvs hfl hle hle'
      revert hp
      generalize parts.toList = l
      generalize vs.zipIdx 0 = q
      intro hp
      induction l generalizing q with
      | nil => cases q with | nil => rfl | cons _ _ => simp at hp
      | cons p l ih =>
        cases q with
        | nil => simp at hp
        | cons x q =>
          simp only [List.map_cons, List.cons.injEq, Prod.mk.injEq] at hp ⊢
          exact ⟨⟨hp.1.1, ha _ _ hp.1.2⟩, ih q hp.2⟩
    have hfill := fill_row i.size vs 0 [] (List.map (fun j => z.cells[j % z.cells.size]!) (List.range (len * i.size))) hvs (by simp) (by simp [hlen])
    simp only [List.nil_append] at hfill
    have harr : ((Array.range (len * i.size)).map fun j => z.cells[j % z.cells.size]!) = (List.map (fun j => z.cells[j % z.cells.size]!) (List.range (len * i.size))).toArray := by
      apply Array.toList_inj.1; simp
    rw [← harr, ← hparts] at hfill
    simp only [execOp, Instr.buildSlice, run_underlying ht, sizeOf, typeInfo, hi, Sem.run_bind, Sem.run_pure, Result.andThen_ok, run_program, zeroValue]
    rw [Array.toList_map] at hfill
    by_cases h0 : len * i.size = 0
    · have hr0 : Array.range 0 = #[] := rfl
      simp only [h0, hr0, Array.map_empty] at hfill
      simp only [hi, h0, hr0, if_true, Sem.run_bind, Sem.run_pure, Result.andThen_ok, run_program, Array.map_empty, Array.toList_map]
      simp [hfill, newRow]
    · have hzz : (zeroValue e).run P w = .ok z w := by simp [zeroValue, typeInfo, hi, hz]
      simp [hi, hz, h0, newRow, show ¬ (16777216 < len * i.size) by omega, hfill]
  · unfold maxLen; omega
  · rw [← hfl]; exact List.take_length
end
section
variable {P : Program} {N : NN} {R : Post} {σ : Env} {w : World} {ops : Array Oper} {rest : List Oper} {d : Nat} {op : Op} {T : TypeId} {pos : String} {after : Array Edge}
def QL (P : Program) (N : NN) (ops : Array Oper) (w : World) (R : Post) (l : List Oper) (σ : Env) : Prop :=
  ∀ a, Fits N σ a → wpQuiet P ops (fun w' => ∃ n, w' = w.drewN n) (fun a' => ∀ w', (∃ n, w' = w.drewN n) → toQ R .normal a' w') l a
theorem evo_drewN (w : World) (n : Nat) : Evo [] w (w.drewN n) := ⟨rfl, rfl, rfl, Nat.le_refl _, fun _ _ _ => rfl⟩
theorem cw_quiet {id : Nat} {l : List Oper} (hm : P.follows .mixedOrders = true) (hB : Region.lexB .any l.toArray = true) (h : QL P N l.toArray w R l σ) : CW P N (.region id l.toArray true) R σ w :=
  fun a ha => wp_region_quiet_lit hm hB (h a ha)
theorem ql_nil (h : ∀ w', Evo [] w w' → R .normal N σ w') : QL P N ops w R [] σ := fun _ ha => wpQuiet_nil fun w' ⟨n, hn⟩ => ⟨N, σ, ha, h w' (hn ▸ evo_drewN w n)⟩
theorem ql_val {r : Value} (hd : Nat.blt d N.1 = true) (hx : ∀ w', Evo [] w w' → Ex P σ ⟨some d, op, T, pos, after, none⟩ w' r w') (h : QL P N ops w R rest ((d, r) :: σ)) :
    QL P N ops w R (⟨some d, op, T, pos, after, none⟩ :: rest) σ := fun a ha => by
  refine wpQuiet_step fun K hK => ?_
  rw [if_pos (by simp [Region.wanted])]
  refine ⟨r, ?_, hK _ (h _ (ha.put (of_decide_eq_true (by simpa using hd)) r))⟩
  rintro w' ⟨n, rfl⟩
  unfold Oper.quietAt
  rw [hx _ (evo_drewN w n) a.eval ha.agrees]
  exact ⟨rfl, rfl⟩
theorem ql_go {dst : Option Nat} {j : Nat} {pol : Bool} {oj : Oper} {t : Nat} (hj : ops[j]? = some oj) (ht : oj.dst = some t) (hv : σ.get t = some (.bool pol)) (hN : Nat.blt t N.1 = true)
    (h : QL P N ops w R (⟨dst, op, T, pos, after, none⟩ :: rest) σ) : QL P N ops w R (⟨dst, op, T, pos, after, some (j, pol)⟩ :: rest) σ := fun a ha => by
  have h1 := h a ha
  have hg : Region.wanted (⟨dst, op, T, pos, after, some (j, pol)⟩ : Oper) (yielded ops a.tmps) = true := by
    have hs : t < a.tmps.size := by rw [ha.1]; exact of_decide_eq_true (by simpa using hN)
    have := ha.2.2 t _ hv
    simp only [Array.getD_eq_getD_getElem?, Array.getElem?_eq_getElem hs, Option.getD_some] at this
    simp [Region.wanted, yielded, hj, ht, Array.getElem?_eq_getElem hs, this]
  unfold wpQuiet at h1 ⊢
  rw [if_pos hg]
  rw [if_pos (by simp [Region.wanted])] at h1
  exact h1
theorem ql_no {j : Nat} {pol b : Bool} {oj : Oper} {t : Nat} (hj : ops[j]? = some oj) (ht : oj.dst = some t) (hv : σ.get t = some (.bool b)) (hb : b = !pol) (hN : Nat.blt t N.1 = true) (hd : Nat.blt d N.1 = true)
    (h : QL P N ops w R rest ((d, undef) :: σ)) : QL P N ops w R (⟨some d, op, T, pos, after, some (j, pol)⟩ :: rest) σ := fun a ha => by
  have hg : Region.wanted (⟨some d, op, T, pos, after, some (j, pol)⟩ : Oper) (yielded ops a.tmps) = false := by
    have hs : t < a.tmps.size := by rw [ha.1]; exact of_decide_eq_true (by simpa using hN)
    have := ha.2.2 t _ hv
    simp only [Array.getD_eq_getD_getElem?, Array.getElem?_eq_getElem hs, Option.getD_some] at this
    subst hb
    cases pol <;> simp [Region.wanted, yielded, hj, ht, Array.getElem?_eq_getElem hs, this]
  unfold wpQuiet
  rw [if_neg (by rw [hg]; simp)]
  exact h _ (ha.put (of_decide_eq_true (by simpa using hd)) _)
theorem Fits.split {t : Nat} {b c : Bool} {a : Act} (hv : σ.get t = some (.bool b)) (he : b = c) (ha : Fits N σ a) : Fits N ((t, .bool c) :: σ) a :=
  ⟨ha.1, ha.2.1, fun u v hu => by
    simp only [Env.get] at hu
    cases hb : Nat.beq t u with
    | true =>
      rw [hb] at hu
      have : t = u := Nat.eq_of_beq_eq_true hb
      subst this
      simp only [cond_true, Option.some.injEq] at hu
      rw [← hu, ha.2.2 t _ hv, he]
    | false => rw [hb] at hu; exact ha.2.2 u v hu⟩
theorem ql_split {l : List Oper} {t : Nat} {p : Prop} [Decidable p] (hv : σ.get t = some (.bool (decide p))) (ht : p → QL P N ops w R l ((t, .bool true) :: σ)) (hf : ¬ p → QL P N ops w R l ((t, .bool false) :: σ)) : QL P N ops w R l σ := by
  intro a ha
  by_cases h : p
  · exact ht h a (ha.split hv (decide_eq_true h))
  · exact hf h a (ha.split hv (decide_eq_false h))
end
abbrev Rel (α : Type) := List Nat → World → List Value → α → Prop
def Rel.Pers {α : Type} (R : Rel α) : Prop := ∀ X w w' vs d, Evo X w w' → R X w vs d → R X w' vs d
def Rel.Fresh {α : Type} (R : Rel α) : Prop := ∀ X Y w vs d, (∀ y, y ∈ Y → y ∈ X ∨ w.heap.size ≤ y) → R X w vs d → R Y w vs d
def RSl {α : Type} (sz : Nat) (R : Rel α) (X : List Nat) (w : World) (v : Value) (ds : List α) : Prop :=
  ∃ a c, v = .slice a ds.length c ∧ ds.length ≤ c ∧ ∀ k (hk : k < ds.length), ∃ b o vs, a = some ⟨b, o, none⟩ ∧ b ∉ X ∧ vs.length = sz ∧ CellsAt w b (o + k * sz) vs ∧ R X w vs ds[k]
theorem RSl.evo {α : Type} {sz : Nat} {R : Rel α} (hR : R.Pers) {X : List Nat} {w w' : World} {v : Value} {ds : List α} (he : Evo X w w') (h : RSl sz R X w v ds) : RSl sz R X w' v ds := by
  obtain ⟨a, c, hv, hc, h⟩ := h
  refine ⟨a, c, hv, hc, fun k hk => ?_⟩
  obtain ⟨b, o, vs, ha, hb, hl, hcs, hr⟩ := h k hk
  exact ⟨b, o, vs, ha, hb, hl, hcs.evo he hb, hR _ _ _ _ _ he hr⟩
def RInt (k : IntKind) : Rel Int := fun _ _ vs n => vs = [.int k n] ∧ k.min ≤ n ∧ n ≤ k.max
def RBool : Rel Bool := fun _ _ vs b => vs = [.bool b]
def RStr : Rel ByteArray := fun _ _ vs s => vs = [.string s]
def RSlice {α : Type} (sz : Nat) (R : Rel α) : Rel (List α) := fun X w vs ds => ∃ v, vs = [v] ∧ RSl sz R X w v ds
theorem RInt.pers (k : IntKind) : (RInt k).Pers := fun _ _ _ _ _ _ h => h
theorem RBool.pers : RBool.Pers := fun _ _ _ _ _ _ h => h
theorem RStr.pers : RStr.Pers := fun _ _ _ _ _ _ h => h
theorem RSlice.pers {α : Type} {sz : Nat} {R : Rel α} (hR : R.Pers) : (RSlice sz R).Pers := fun _ _ _ _ _ he ⟨v, hv, h⟩ => ⟨v, hv, h.evo hR he⟩
end Go.W
namespace Go.W
set_option linter.unusedSimpArgs false
set_option linter.unusedVariables false
def Apart (o p : Option Nat) : Prop := ∀ g, o = some g → p = some g → False
def Ge (w : World) (o : Option Nat) : Prop := ∀ g, o = some g → w.heap.size ≤ g
def Lt (w : World) (o : Option Nat) : Prop := ∀ g, o = some g → g < w.heap.size
theorem Apart.symm {o p : Option Nat} (h : Apart o p) : Apart p o := fun g h1 h2 => h g h2 h1
theorem Lt.blk {w : World} {b : Nat} {o : Obj} (h : w.heap[b]? = some o) : Lt w (some b) := fun g hg => by cases hg; exact blk_lt h
theorem Lt.own {w : World} {e : TypeId} {sz : Nat} {a : Option Addr} {n c : Nat} {xs : List Value} {ob : Option Nat} (h : OwnS w e sz a n c xs ob) : Lt w ob := fun g hg => by subst hg; exact h.lt
theorem Lt.nil (w : World) : Lt w none := fun g hg => by cases hg
theorem Apart.new {w : World} {o : Option Nat} {b : Nat} (h : Lt w o) (hs : w.heap.size = b) : Apart o (some b) := fun g h1 h2 => by have h3 := Option.some.inj h2; have := h g h1; omega
theorem Apart.fresh {w : World} {o p : Option Nat} (h : Lt w o) (hs : Ge w p) : Apart o p := fun g h1 h2 => by have := h g h1; have := hs g h2; omega
theorem Apart.nil (o : Option Nat) : Apart o Option.none := fun _ _ h => by cases h
theorem Apart.app {w : World} {o ob ob' : Option Nat} (h : Apart o ob) (hl : Lt w o) (hob : ob' = ob ∨ ∃ g, ob' = some g ∧ w.heap.size ≤ g) : Apart o ob' := fun g h1 h2 => by
  rcases hob with rfl | ⟨g', rfl, hg⟩
  · exact h g h1 h2
  · cases h2; have := hl g h1; omega
theorem Apart.nmem {b : Nat} {ob : Option Nat} (h : Apart (some b) ob) : b ∉ ob.toList := fun hm => by
  cases ob with
  | none => cases hm
  | some g => exact h g (by simp at hm; rw [hm]) rfl
theorem Apart.nmem1 {b c : Nat} (h : Apart (some b) (some c)) : b ∉ [c] := h.nmem
theorem Apart.own {o ob : Option Nat} (h : Apart o ob) : ∀ g, o = some g → g ∉ ob.toList := fun g hg => by subst hg; exact h.nmem
theorem Apart.own1 {o : Option Nat} {c : Nat} (h : Apart o (some c)) : ∀ g, o = some g → g ∉ [c] := fun g hg => by subst hg; exact h.nmem
theorem Ge.nil (w : World) : Ge w none := fun g h => by cases h
theorem Ge.new {X : List Nat} {a w : World} {b : Nat} (h : Evo X a w) (hs : w.heap.size = b) : Ge a (some b) := fun g hg => by cases hg; have := h.size; omega
theorem Ge.fresh {X : List Nat} {a w : World} {o : Option Nat} (h : Evo X a w) (hs : Ge w o) : Ge a o := fun g hg => by have := h.size; have := hs g hg; omega
theorem Ge.app {X : List Nat} {a w : World} {ob ob' : Option Nat} (h : Ge a ob) (he : Evo X a w) (hob : ob' = ob ∨ ∃ g, ob' = some g ∧ w.heap.size ≤ g) : Ge a ob' := fun g h2 => by
  rcases hob with rfl | ⟨g', rfl, hg⟩
  · exact h g h2
  · cases h2; have := he.size; omega
theorem Ge.mem {X : List Nat} {a : World} {ob : Option Nat} (h : Ge a ob) : ∀ y, y ∈ ob.toList → y ∈ X ∨ a.heap.size ≤ y := fun y hy => by
  cases ob with
  | none => cases hy
  | some g => simp at hy; subst hy; exact .inr (h _ rfl)
theorem Ge.mem1 {X : List Nat} {a : World} {b : Nat} (h : Ge a (some b)) : ∀ y, y ∈ [b] → y ∈ X ∨ a.heap.size ≤ y := h.mem
theorem Src.ofOwn {P : Program} {w : World} {e : TypeId} {sz : Nat} {a : Option Addr} {n c : Nat} {xs : List Value} {ob : Option Nat} (h : OwnS w e sz a n c xs ob) (h1 : AllOne xs) : Src P w sz (.slice a n c) n xs := by
  have h1' := h1.mem
  rcases Nat.eq_zero_or_pos n with h0 | h0
  · subst h0
    have hx : xs = [] := List.eq_nil_of_length_eq_zero (by simpa using h.1)
    subst hx
    refine ⟨fun _ => rfl, fun w2 _ => ?_, by simp, h1'⟩
    cases a with
    | none => rfl
    | some a => simp [Builtin.firstCells, loadCells, loadCellsFrom]
  · obtain ⟨g, _, rfl, hc⟩ := h.cells h0
    exact Src.slice h.1 hc h1'
theorem RSl.one {α : Type} {sz : Nat} {R : Rel α} {X : List Nat} {w : World} {v : Value} {ds : List α} (h : RSl sz R X w v ds) : v.oneCell' = true := by
  obtain ⟨_, _, rfl, _⟩ := h; rfl
theorem RSl.cell {α : Type} {sz : Nat} {R : Rel α} {X : List Nat} {w : World} {v : Value} {ds : List α} (h : RSl sz R X w v ds) : v.cells = #[v] := by
  obtain ⟨_, _, rfl, _⟩ := h; rfl
theorem RSl.src {α : Type} {P : Program} {sz : Nat} {R : Rel α} {X : List Nat} {w w' : World} {v : Value} {ds : List α} (h : RSl sz R X w v ds) (he : Evo X w w') (h1 : ∀ X w vs d, R X w vs d → ∀ u, u ∈ vs → u.oneCell' = true) :
    ∃ rows : List (List Value), rows.length = ds.length ∧ (∀ k (hk : k < ds.length) (hk' : k < rows.length), rows[k].length = sz ∧ R X w rows[k] ds[k]) ∧ Src P w' sz v ds.length rows.flatten := by
  obtain ⟨a, c, rfl, hc, h⟩ := h
  rcases Nat.eq_zero_or_pos ds.length with h0 | h0
  · refine ⟨[], by simp [h0], fun k hk => by omega, ?_⟩
    refine ⟨fun _ => rfl, fun w2 _ => ?_, by simp [h0], fun u hu => by simp at hu⟩
    rw [h0]
    cases a with
    | none => rfl
    | some a => simp [Builtin.firstCells, loadCells, loadCellsFrom]
  · obtain ⟨b, o, _, ha, hbX, _⟩ := h 0 h0
    subst ha
    have hex : ∀ n, n ≤ ds.length → ∃ rows : List (List Value), rows.length = n ∧ (∀ k (hk : k < ds.length) (hk' : k < rows.length), rows[k].length = sz ∧ CellsAt w b (o + k * sz) rows[k] ∧ R X w rows[k] ds[k]) := by
      intro n
      induction n with
      | zero => exact fun _ => ⟨[], rfl, fun k _ hk' => by simp at hk'⟩
      | succ n ih =>
        intro hn
        obtain ⟨rows, hl, hr⟩ := ih (by omega)
        obtain ⟨b', o', vs, hb, _, hlen, hcs, hR⟩ := h n (by omega)
        cases hb
        refine ⟨rows ++ [vs], by simp [hl], fun k hk hk' => ?_⟩
        by_cases hkn : k < n
        · rw [List.getElem_append_left (by omega)]
          exact hr k hk (by omega)
        · obtain rfl : k = n := by simp [hl] at hk'; omega
          rw [List.getElem_append_right (by omega)]
          simp only [hl, Nat.sub_self, List.getElem_cons_zero]
          exact ⟨hlen, hcs, hR⟩
    obtain ⟨rows, hl, hr⟩ := hex ds.length (Nat.le_refl _)
    refine ⟨rows, hl, fun k hk hk' => ⟨(hr k hk hk').1, (hr k hk hk').2.2⟩, ?_⟩
    have hcells : ∀ (rs : List (List Value)) (k : Nat), (∀ j (hj : j < rs.length), rs[j].length = sz ∧ CellsAt w b (o + (k + j) * sz) rs[j]) → CellsAt w b (o + k * sz) rs.flatten := by
      intro rs
      induction rs with
      | nil => intro k _ j v hv; simp at hv
      | cons r rs ih =>
        intro k hk j v hv
        simp only [List.flatten_cons, List.getElem?_append] at hv
        have h0 := hk 0 (by simp)
        split at hv
        · have := h0.2 j v (by simpa using hv)
          simpa using this
        · have hrs := ih (k + 1) (fun j hj => by have := hk (j + 1) (by simpa using hj); simp only [List.getElem_cons_succ] at this; rw [show k + 1 + j = k + (j + 1) by omega]; exact this) (j - r.length) v hv
          have hrl : r.length = sz := h0.1
          rw [show o + k * sz + j = o + (k + 1) * sz + (j - r.length) by rw [Nat.add_mul]; omega]
          exact hrs
    have hlen : ∀ (rs : List (List Value)), (∀ r, r ∈ rs → r.length = sz) → rs.flatten.length = rs.length * sz := by
      intro rs
      induction rs with
      | nil => intro _; simp
      | cons r rs ih => intro hk; simp [ih (fun r hr => hk r (List.mem_cons_of_mem _ hr)), hk r (by simp), Nat.add_mul]; omega
    have hall : ∀ r, r ∈ rows → r.length = sz ∧ ∀ u, u ∈ r → u.oneCell' = true := fun r hr' => by
      obtain ⟨k, hk, rfl⟩ := List.getElem_of_mem hr'
      have := hr k (by omega) hk
      exact ⟨this.1, h1 _ _ _ _ this.2.2⟩
    refine Src.slice (by rw [hlen rows (fun r h => (hall r h).1), hl]) (CellsAt.evo (w := w) (X := X) ?_ he hbX) (fun u hu => by obtain ⟨r, hr', hu'⟩ := List.mem_flatten.1 hu; exact (hall r hr').2 u hu')
    have := hcells rows 0 (fun j hj => ⟨(hr j (by omega) hj).1, by simpa using (hr j (by omega) hj).2.1⟩)
    simpa using this
theorem RSl.fresh {α : Type} {sz : Nat} {R : Rel α} (hsz : 0 < sz) (hR : R.Fresh) {X Y : List Nat} {w : World} {v : Value} {ds : List α} (hy : ∀ y, y ∈ Y → y ∈ X ∨ w.heap.size ≤ y) (h : RSl sz R X w v ds) : RSl sz R Y w v ds := by
  obtain ⟨a, c, hv, hc, h⟩ := h
  refine ⟨a, c, hv, hc, fun k hk => ?_⟩
  obtain ⟨b, o, vs, ha, hb, hl, hcs, hr⟩ := h k hk
  refine ⟨b, o, vs, ha, fun hbY => ?_, hl, hcs, hR _ _ _ _ _ hy hr⟩
  rcases hy b hbY with h1 | h1
  · exact hb h1
  · cases vs with
    | nil => simp at hl; omega
    | cons v0 vs =>
      have := World.block_lt_of_cell? w _ (hcs 0 v0 (by simp))
      simp only at this
      omega
theorem RInt.fresh (k : IntKind) : (RInt k).Fresh := fun _ _ _ _ _ _ h => h
theorem RBool.fresh : RBool.Fresh := fun _ _ _ _ _ _ h => h
theorem RStr.fresh : RStr.Fresh := fun _ _ _ _ _ _ h => h
theorem RStr.one : ∀ X w vs d, RStr X w vs d → ∀ u, u ∈ vs → u.oneCell' = true := fun _ _ _ _ h u hu => by
  cases h; simp at hu; subst hu; rfl
theorem RSlice.fresh {α : Type} {sz : Nat} {R : Rel α} (hsz : 0 < sz) (hR : R.Fresh) : (RSlice sz R).Fresh := fun _ _ _ _ _ hy ⟨v, hv, h⟩ => ⟨v, hv, h.fresh hsz hR hy⟩
def RowsOk {α : Type} (sz : Nat) (R : Rel α) (X : List Nat) (w : World) (rows : List (List Value)) (ds : List α) : Prop :=
  rows.length = ds.length ∧ ∀ k (h : k < ds.length) (h' : k < rows.length), rows[k].length = sz ∧ R X w rows[k] ds[k]
theorem RowsOk.evo {α : Type} {sz : Nat} {R : Rel α} (hR : R.Pers) {X : List Nat} {w w' : World} {rows : List (List Value)} {ds : List α} (h : RowsOk sz R X w rows ds) (he : Evo X w w') : RowsOk sz R X w' rows ds :=
  ⟨h.1, fun k hk hk' => ⟨(h.2 k hk hk').1, hR _ _ _ _ _ he (h.2 k hk hk').2⟩⟩
theorem RowsOk.fresh {α : Type} {sz : Nat} {R : Rel α} (hR : R.Fresh) {X Y : List Nat} {w : World} {rows : List (List Value)} {ds : List α} (hy : ∀ y, y ∈ Y → y ∈ X ∨ w.heap.size ≤ y) (h : RowsOk sz R X w rows ds) : RowsOk sz R Y w rows ds :=
  ⟨h.1, fun k hk hk' => ⟨(h.2 k hk hk').1, hR _ _ _ _ _ hy (h.2 k hk hk').2⟩⟩
theorem RowsOk.set {α : Type} {sz : Nat} {R : Rel α} {X : List Nat} {w : World} {rows : List (List Value)} {ds : List α} (h : RowsOk sz R X w rows ds) {i : Nat} (hi : i < ds.length) {r : List Value} (hl : r.length = sz) (hr : R X w r ds[i]) : RowsOk sz R X w (rows.set i r) ds := by
  refine ⟨by simp [h.1], fun k hk hk' => ?_⟩
  by_cases e : i = k
  · subst e; simp only [List.getElem_set_self]; exact ⟨hl, hr⟩
  · simp only [List.getElem_set_ne e]; exact h.2 k hk (by simpa using hk')
theorem RowsOk.nil {α : Type} (sz : Nat) (R : Rel α) (X : List Nat) (w : World) : RowsOk sz R X w [] [] := ⟨rfl, fun k hk => by simp at hk⟩
theorem RowsOk.flen {α : Type} {sz : Nat} {R : Rel α} {X : List Nat} {w : World} {rows : List (List Value)} {ds : List α} (h : RowsOk sz R X w rows ds) : ∀ r, r ∈ rows → r.length = sz := fun r hr => by
  obtain ⟨k, hk, rfl⟩ := List.getElem_of_mem hr
  exact (h.2 k (by rw [← h.1]; exact hk) hk).1
theorem flatten_get {sz : Nat} : ∀ {rows : List (List Value)} (_ : ∀ r, r ∈ rows → r.length = sz) {k j : Nat} (hk : k < rows.length) (_ : j < sz), rows.flatten[k * sz + j]? = rows[k][j]? := by
  intro rows
  induction rows with
  | nil => intro _ k j hk; simp at hk
  | cons r rows ih =>
    intro h k j hk hj
    have hr := h r (by simp)
    cases k with
    | zero => simp [List.getElem?_append, hr, hj]
    | succ k =>
      have := ih (fun r hr => h r (List.mem_cons_of_mem _ hr)) (k := k) (j := j) (by simpa using hk) hj
      simp only [List.flatten_cons, List.getElem?_append, hr, List.getElem_cons_succ]
      rw [if_neg (by rw [Nat.add_mul]; omega), show (k + 1) * sz + j - sz = k * sz + j by rw [Nat.add_mul]; omega, this]
theorem OwnS.set {w w' : World} {e : TypeId} {sz : Nat} {a : Option Addr} {n c : Nat} {xs : List Value} {g : Nat} {cur : Array Value} {U : TypeId} {i : Nat} {v : Value} (h : OwnS w e sz a n c xs (some g)) (hb : w.heap[g]? = some (.cells cur U (0, 0))) (hb' : w'.heap[g]? = some (.cells (cur.setIfInBounds i v) U (0, 0))) : OwnS w' e sz a n c (xs.set i v) (some g) := by
  refine ⟨by simp [h.1], ?_⟩
  rcases h.2 with ⟨_, _, h2⟩ | ⟨g', cap, cur', hg, hv, hbb, hn, hc, hs, ht⟩
  · cases h2
  · cases hg
    rw [hb] at hbb
    cases hbb
    refine .inr ⟨g, cap, _, rfl, hv, hb', hn, hc, by simp [hs], ?_⟩
    rw [← ht]
    simp [List.take_set]
theorem OwnS.set' {w w' : World} {e : TypeId} {sz : Nat} {a : Option Addr} {n c : Nat} {xs : List Value} {ob : Option Nat} {g : Nat} {cur : Array Value} {U : TypeId} {i : Nat} {v : Value} (h : OwnS w e sz a n c xs ob) (hg : ob = some g) (hb : w.heap[g]? = some (.cells cur U (0, 0))) (hb' : w'.heap[g]? = some (.cells (cur.setIfInBounds i v) U (0, 0))) : OwnS w' e sz a n c (xs.set i v) ob := by
  subst hg; exact h.set hb hb'
theorem evo_ob {w w' : World} {ob : Option Nat} {g : Nat} (hg : ob = some g) (h : Evo [g] w w') : Evo ob.toList w w' := by subst hg; exact h
theorem OwnS.inb {w : World} {e : TypeId} {sz : Nat} {a : Option Addr} {n c k j o : Nat} {xs : List Value} {ob : Option Nat} {cur : Array Value} (h : OwnS w e sz a n c xs ob) (hs : cur.size = c * sz) (hk : k < n) (hj : j < sz) (ho : o = k * sz + j) : o < cur.size := by
  have h1 := h.le
  have h2 : (k + 1) * sz ≤ c * sz := Nat.mul_le_mul_right _ (by omega)
  rw [hs, ho]
  rw [Nat.add_mul] at h2
  omega
theorem RSl.ofOwn {α : Type} {sz : Nat} {R : Rel α} {X : List Nat} {w : World} {e : TypeId} {a : Option Addr} {n c : Nat} {rows : List (List Value)} {ds : List α} {ob : Option Nat} (h : OwnS w e sz a n c rows.flatten ob) (hr : RowsOk sz R X w rows ds) (hn : ds.length = n) (hx : ∀ g, ob = some g → g ∉ X) :
    RSl sz R X w (.slice a n c) ds := by
  subst hn
  refine ⟨a, c, rfl, h.le, fun k hk => ?_⟩
  obtain ⟨g, hg, ha, hcs⟩ := h.cells (by omega)
  have hk' : k < rows.length := by rw [hr.1]; exact hk
  obtain ⟨h1, h2⟩ := hr.2 k hk hk'
  refine ⟨g, 0, rows[k], ha, hx g hg, h1, fun j v hv => ?_, h2⟩
  have hj : j < sz := by rw [← h1]; exact (List.getElem?_eq_some_iff.1 hv).1
  have := hcs (k * sz + j) v (by rw [flatten_get hr.flen hk' hj]; exact hv)
  rw [show 0 + k * sz + j = 0 + (k * sz + j) by omega]
  exact this
theorem RSl.rows {α : Type} {P : Program} {sz : Nat} {R : Rel α} {X : List Nat} {w w' : World} {v : Value} {ds : List α} (h : RSl sz R X w v ds) (he : Evo X w w') (h1 : ∀ X w vs d, R X w vs d → ∀ u, u ∈ vs → u.oneCell' = true) :
    ∃ rows : List (List Value), RowsOk sz R X w rows ds ∧ Src P w' sz v ds.length rows.flatten := by
  obtain ⟨rows, hl, hr, hs⟩ := h.src (P := P) he h1
  exact ⟨rows, ⟨hl, fun k hk hk' => hr k hk hk'⟩, hs⟩
section
variable {P : Program} {N : NN} {R : Post} {σ : Env} {w : World} {ops : Array Oper} {rest : List Oper} {dst : Option Nat} {d : Nat} {op : Op} {T : TypeId} {pos : String} {after : Array Edge} {g : Option (Nat × Bool)}
theorem ex_indexAddrZ {x i : Operand} {t : TypeId} {k : IntKind} {z : Int} {n sz b o len c : Nat} (hx : σ.ev x = some (.slice (some ⟨b, o, none⟩) len c)) (hi : σ.ev i = some (.int k z)) (hz : z = n) (he : elemB P t = some sz) (hlt : n < len) :
    Ex P σ ⟨dst, .indexAddr t x i, T, pos, after, g⟩ w (.pointer (some ⟨b, o + n * sz, none⟩)) w := ex_indexAddr hx (by rw [hi, hz]) he hlt
theorem wanted_undef {j : Nat} {pol : Bool} {oj : Oper} {t : Nat} {a : Act} (hj : ops[j]? = some oj) (ht : oj.dst = some t) (hv : σ.get t = some undef) (ha : Fits N σ a) (hN : Nat.blt t N.1 = true) :
    Region.wanted (⟨dst, op, T, pos, after, some (j, pol)⟩ : Oper) (yielded ops a.tmps) = false := by
  have hs : t < a.tmps.size := by rw [ha.1]; exact of_decide_eq_true (by simpa using hN)
  have := ha.2.2 t _ hv
  simp only [Array.getD_eq_getD_getElem?, Array.getElem?_eq_getElem hs, Option.getD_some] at this
  simp [Region.wanted, yielded, hj, ht, Array.getElem?_eq_getElem hs, this, undef]
theorem wl_nou {j : Nat} {pol : Bool} {oj : Oper} {t : Nat} (hj : ops[j]? = some oj) (ht : oj.dst = some t) (hv : σ.get t = some undef) (hN : Nat.blt t N.1 = true) (hd : Nat.blt d N.1 = true)
    (h : WL P N ops R rest ((d, undef) :: σ) w) : WL P N ops R (⟨some d, op, T, pos, after, some (j, pol)⟩ :: rest) σ w := fun a ha => by
  unfold wpList
  rw [if_neg (by rw [wanted_undef hj ht hv ha hN]; simp)]
  exact h _ (ha.put (of_decide_eq_true (by simpa using hd)) _)
theorem ql_nou {j : Nat} {pol : Bool} {oj : Oper} {t : Nat} (hj : ops[j]? = some oj) (ht : oj.dst = some t) (hv : σ.get t = some undef) (hN : Nat.blt t N.1 = true) (hd : Nat.blt d N.1 = true)
    (h : QL P N ops w R rest ((d, undef) :: σ)) : QL P N ops w R (⟨some d, op, T, pos, after, some (j, pol)⟩ :: rest) σ := fun a ha => by
  unfold wpQuiet
  rw [if_neg (by rw [wanted_undef hj ht hv ha hN]; simp)]
  exact h _ (ha.put (of_decide_eq_true (by simpa using hd)) _)
end
section
variable {P : Program} {σ : Env} {w : World} {dst : Option Nat} {T : TypeId} {pos : String} {after : Array Edge} {g : Option (Nat × Bool)}
theorem toList_inj {a b : ByteArray} (h : a.toList = b.toList) : a = b := by
  rw [ByteArray.toList_eq, ByteArray.toList_eq] at h
  obtain ⟨⟨x⟩⟩ := a
  obtain ⟨⟨y⟩⟩ := b
  simp at h
  subst h
  rfl
theorem toList_eq_iff (a b : ByteArray) : (a.toList == b.toList) = decide (a = b) := by
  by_cases h : a = b
  · subst h; simp
  · rw [decide_eq_false h]
    exact beq_eq_false_iff_ne.2 (fun h2 => h (toList_inj h2))
theorem ex_eqs {x y : Operand} {t t' : TypeId} {a b : ByteArray} (hx : σ.ev x = some (.string a)) (hy : σ.ev y = some (.string b)) : Ex P σ ⟨dst, .binOp .eql t x y t', T, pos, after, g⟩ w (.bool (decide (a = b))) w := fun ρ h => by
  simp [execOp, h x _ hx, h y _ hy, eqGuard, Go.binOp, Op.stringOp, toList_eq_iff]
theorem ex_neqs {x y : Operand} {t t' : TypeId} {a b : ByteArray} (hx : σ.ev x = some (.string a)) (hy : σ.ev y = some (.string b)) : Ex P σ ⟨dst, .binOp .neq t x y t', T, pos, after, g⟩ w (.bool (decide (¬ a = b))) w := fun ρ h => by
  simp [execOp, h x _ hx, h y _ hy, eqGuard, Go.binOp, Op.stringOp, toList_eq_iff]
end
def lastB (md : Region.Mode) (ops : Array Oper) (j : Nat) : Bool :=
  (List.range ops.size).all fun k => k == j || match ops[j]? with
    | some oj => oj.after.any fun e => Region.binds md e && e.on == k
    | none => false
def AnyG (P : Program) (md : Region.Mode) (ops : Array Oper) (Q : Exit → Act → World → Prop) (S : World → Prop) : Nat → Array Bool → Act → World → Prop
  | 0, listed, a, w => Region.ready md ops listed = [] ∧ Q .normal a w
  | fuel + 1, listed, a, w => (Region.ready md ops listed = [] → Q .normal a w) ∧
    ∀ i ∈ Region.ready md ops listed, wpOp P ops Q i (fun a' w' => (S w' ∨ lastB md ops i = true) ∧ AnyG P md ops Q S fuel (listed.setIfInBounds i true) a' w') a w
section
variable {P : Program} {ops : Array Oper} {Q : Exit → Act → World → Prop} {md : Region.Mode} {S : World → Prop}
theorem any_of_g : ∀ (fuel : Nat) (listed : Array Bool) (a : Act) (w : World), AnyG P md ops Q S fuel listed a w → wpAny P md ops Q fuel listed a w
  | 0, _, _, _, h => h
  | fuel + 1, _, _, _, h => ⟨h.1, fun i hi => wpOp_mono (fun a' w' h' => any_of_g fuel _ a' w' h'.2) (h.2 i hi)⟩
theorem anyG_first {i : Nat} {oi : Oper} {v : Value} (hi : ops[i]? = some oi) (hsel : ∀ (j : Nat) (o : Oper) cs b, ops[j]? = some o → o.op ≠ .select cs b)
    (hQ : ∀ c a w, Q (.panic c) (a.put oi.dst v) w → Q (.panic c) a w) :
    ∀ (fuel : Nat) (listed : Array Bool) (a : Act) (w : World),
      (∀ j oj, ops[j]? = some oj → j ≠ i → listed.getD j true = false → (∀ e ∈ oj.after, Region.binds md e = true → e.on ≠ i) → oi.apart ops oj = true) →
      i ∈ Region.ready md ops listed → YieldsIf P ops S oi v a → S w →
      AnyG P md ops Q S fuel (listed.setIfInBounds i true) (a.put oi.dst v) w → AnyG P md ops Q S (fuel + 1) listed a w := by
  intro fuel
  induction fuel with
  | zero =>
    intro listed a w _ hr hy hS H
    refine ⟨fun h => (by rw [h] at hr; cases hr), fun j hj => ?_⟩
    by_cases hji : j = i
    · subst hji; exact hy.wpOp hi hS ⟨.inl hS, H⟩
    · have := ready_mono hj hji
      rw [H.1] at this
      cases this
  | succ fuel ih =>
    intro listed a w hfree hr hy hS H
    refine ⟨fun h => (by rw [h] at hr; cases hr), fun j hj => ?_⟩
    by_cases hji : j = i
    · subst hji; exact hy.wpOp hi hS ⟨.inl hS, H⟩
    · have h1 := H.2 j (ready_mono hj hji)
      obtain ⟨hjun, oj, hoj, hall⟩ := mem_ready.1 hj
      have hnot : ∀ e ∈ oj.after, Region.binds md e = true → e.on ≠ i := fun e he hb heq => by
        have h1 := hall e he hb
        have h0 := (mem_ready.1 hr).1
        rw [heq] at h1
        rcases Nat.lt_or_ge i listed.size with h' | h'
        · simp [h'] at h0 h1; rw [h0] at h1; cases h1
        · simp [Array.getElem?_eq_none h'] at h1
      have hlast : lastB md ops j ≠ true := fun hl => by
        have hlt : i < ops.size := (Array.getElem?_eq_some_iff.1 hi).1
        have h2 := List.all_eq_true.1 hl i (List.mem_range.2 hlt)
        rw [hoj] at h2
        simp only [Bool.or_eq_true, beq_iff_eq] at h2
        rcases h2 with h2 | h2
        · exact hji h2.symm
        · obtain ⟨e, he, hb⟩ := Array.any_eq_true'.1 h2
          simp only [Bool.and_eq_true, beq_iff_eq] at hb
          exact hnot e he hb.1 hb.2
      have h2 := wpOp_putIf hoj (hfree j oj hoj hji hjun hnot) (fun cs b => hsel i oi cs b hi) (fun cs b => hsel j oj cs b hoj) hQ hy h1
      have hfree' : ∀ k ok, ops[k]? = some ok → k ≠ i → (listed.setIfInBounds j true).getD k true = false →
          (∀ e ∈ ok.after, Region.binds md e = true → e.on ≠ i) → oi.apart ops ok = true := fun k ok hk hki hun hno => by
        refine hfree k ok hk hki ?_ hno
        by_cases hjk : j = k
        · subst hjk; exact hjun
        · rw [getD_set_ne true hjk] at hun; exact hun
      refine wpOp_mono (fun a' w' h3 => ?_) h2
      have hS' : S w' := h3.2.1.resolve_right hlast
      refine ⟨.inl hS', ih (listed.setIfInBounds j true) a' w' hfree' (ready_mono hr (Ne.symm hji)) h3.1 hS' ?_⟩
      rw [Array.setIfInBounds_comm _ _ hji]
      exact h3.2.2
end
def agn (R : Post) : Post
  | .panic c, N, _, w => R (.panic c) N [] w
  | .normal, N, σ, w => R .normal N σ w
  | .exit i, N, σ, w => R (.exit i) N σ w
  | .goto l, N, σ, w => R (.goto l) N σ w
  | .ret, N, σ, w => R .ret N σ w
  | .outgrown, N, σ, w => R .outgrown N σ w
theorem fits_none {N : NN} {σ : Env} {a : Act} (h : Fits N σ a) : Fits N [] a := ⟨h.1, h.2.1, fun t v h => by cases h⟩
theorem toQ_agn {R : Post} : ∀ e a w, toQ (agn R) e a w → toQ R e a w := fun e a w h => by
  cases e with
  | panic c => obtain ⟨N, σ, hf, h⟩ := h; exact ⟨N, [], fits_none hf, h⟩
  | normal => exact h
  | exit i => exact h
  | goto l => exact h
  | ret => exact h
  | outgrown => exact h
def AE (P : Program) (N : NN) (ops : Array Oper) (R : Post) (S : World → Prop) (fuel : Nat) (listed : Array Bool) (σ : Env) (w : World) : Prop :=
  ∀ a, Fits N σ a → AnyG P .any ops (toQ (agn R)) S fuel listed a w
def AStep (P : Program) (N : NN) (ops : Array Oper) (R : Post) (S : World → Prop) (fuel : Nat) (listed : Array Bool) (σ : Env) (w : World) (i : Nat) : Prop :=
  ∀ a, Fits N σ a → wpOp P ops (toQ (agn R)) i (fun a' w' => (S w' ∨ lastB .any ops i = true) ∧ AnyG P .any ops (toQ (agn R)) S fuel (listed.setIfInBounds i true) a' w') a w
def AAll (p : Nat → Prop) : List Nat → Prop
  | [] => True
  | i :: r => p i ∧ AAll p r
section
variable {P : Program} {N : NN} {R : Post} {σ : Env} {w : World} {ops : Array Oper} {S : World → Prop} {fuel : Nat} {listed : Array Bool} {d : Nat} {op : Op} {T : TypeId} {pos : String} {after : Array Edge}
theorem cw_any {id : Nat} {l : List Oper} (S : World → World → Prop) (hm : P.follows .mixedOrders = true)
    (h : ∀ w1, Evo [] w w1 → AE P N l.toArray R (S w1) l.toArray.size (Array.replicate l.toArray.size false) σ w1) : CW P N (.region id l.toArray true) R σ w :=
  fun a ha => wp_mono (wp_region_any hm (any_of_g _ _ _ _ (h _ (evo_drew w) a ha))) toQ_agn
theorem toQ_put {R : Post} {dst : Option Nat} {v : Value} : ∀ c a w, toQ (agn R) (.panic c) (a.put dst v) w → toQ (agn R) (.panic c) a w := by
  rintro c a w ⟨N, σ, hf, h⟩
  refine ⟨N, [], ⟨?_, ?_, fun t v h => by cases h⟩, h⟩
  · rw [← hf.1]; cases dst <;> simp [Act.put]
  · rw [← hf.2.1]; cases dst <;> rfl
theorem ae_take (i : Nat) {r : Value} (hi : ops[i]? = some ⟨some d, op, T, pos, after, none⟩) (hs : Region.noSelect ops = true) (hf : Region.free .any ops listed i = true) (hr : (Region.ready .any ops listed).contains i = true)
    (hd : Nat.blt d N.1 = true) (hx : ∀ w', S w' → Ex P σ ⟨some d, op, T, pos, after, none⟩ w' r w') (hS : S w) (h : AE P N ops R S fuel (listed.setIfInBounds i true) ((d, r) :: σ) w) : AE P N ops R S (fuel + 1) listed σ w := fun a ha =>
  anyG_first hi (Region.noSelect_spec hs) (fun c a w => toQ_put c a w) fuel listed a w (Region.free_spec hi hf) (by simpa using hr)
    (.inl ⟨by simp [Region.wanted], fun w' hw' => hx w' hw' a.eval ha.agrees⟩) hS (h _ (ha.put (of_decide_eq_true (by simpa using hd)) r))
theorem ae_loud (rs : List Nat) (hr : Region.ready .any ops listed = rs) (hne : rs.isEmpty = false) (h : AAll (AStep P N ops R S fuel listed σ w) rs) : AE P N ops R S (fuel + 1) listed σ w := fun a ha => by
  refine ⟨fun h0 => ?_, ?_⟩
  · rw [hr] at h0; subst h0; cases hne
  · rw [hr]
    clear hr hne
    induction rs with
    | nil => intro i hi; cases hi
    | cons j rs ih =>
      intro i hi
      rcases List.mem_cons.1 hi with rfl | hi
      · exact h.1 a ha
      · exact ih h.2 i hi
theorem a_step {i : Nat} {o : Oper} (hi : ops[i]? = some o) (h : WL P N ops (thenR (fun N' σ' w' => N' = N ∧ (S w' ∨ lastB .any ops i = true) ∧ AE P N ops R S fuel (listed.setIfInBounds i true) σ' w') (agn R)) [o] σ w) : AStep P N ops R S fuel listed σ w i := fun a ha => by
  have h1 := h a ha
  unfold wpList at h1
  unfold wpOp
  simp only [hi]
  have conv : ∀ a' w', toQ (thenR (fun N' σ' w' => N' = N ∧ (S w' ∨ lastB .any ops i = true) ∧ AE P N ops R S fuel (listed.setIfInBounds i true) σ' w') (agn R)) .normal a' w' →
      (S w' ∨ lastB .any ops i = true) ∧ AnyG P .any ops (toQ (agn R)) S fuel (listed.setIfInBounds i true) a' w' := by
    rintro a' w' ⟨N', σ', hf, rfl, hs, hae⟩
    exact ⟨hs, hae a' hf⟩
  split
  · rename_i hw
    rw [if_pos hw] at h1
    rcases h1 with h1 | ⟨h1, a0, w0, h2⟩
    · refine .inl ?_
      unfold Oper.wp at h1 ⊢
      generalize (execOp a.eval o).run P w = r at *
      cases r with
      | ok n w' =>
        cases n <;> simp only [Oper.upon] at h1 ⊢
        case value u => exact conv _ _ (by simpa [wpList] using h1)
        case skip => exact conv _ _ (by simpa [wpList] using h1)
        case defer d => exact conv _ _ (by simpa [wpList] using h1)
        case enter f args =>
          refine h1.mono fun e w'' he => ?_
          cases e with
          | returned u => exact conv _ _ (by simpa [wpList] using he)
          | panicked c => exact he
          | outgrown => obtain ⟨a0, w0, h2⟩ := he; exact ⟨a0, w0, h2⟩
        case row row args => exact h1.mono fun u w'' he => conv _ _ (by simpa [wpList] using he)
      | halt x w' =>
        cases x <;> simp only [Oper.upon] at h1 ⊢
        case panic u => exact h1
    · exact .inr ⟨h1, a0, w0, h2⟩
  · rename_i hw
    rw [if_neg hw] at h1
    exact conv _ _ (by simpa [wpList] using h1)
theorem ae_next {i : Nat} {w : World} (hS : S w ∨ lastB .any ops i = true) (h : AE P N ops R S fuel (listed.setIfInBounds i true) σ w) :
    thenR (fun N' σ' w' => N' = N ∧ (S w' ∨ lastB .any ops i = true) ∧ AE P N ops R S fuel (listed.setIfInBounds i true) σ' w') R .normal N σ w := ⟨rfl, hS, h⟩
theorem ae_done (hr : Region.ready .any ops listed = []) (h : R .normal N σ w) : AE P N ops R S fuel listed σ w := fun a ha => by
  cases fuel with
  | zero => exact ⟨hr, N, σ, ha, h⟩
  | succ n => exact ⟨fun _ => ⟨N, σ, ha, h⟩, by rw [hr]; intro i hi; cases hi⟩
theorem cw_cut {c : Code} {α : Type} (M : α → Env) (C : Env) (Φ : α → World → Prop) (_hC : Sub C σ) (h1 : CW P N c (thenR (fun N' σ' w' => N' = N ∧ ∃ x, Sub (M x) σ' ∧ Sub C σ' ∧ Φ x w') R) σ w) (h2 : ∀ x w', Φ x w' → R .normal N (M x ++ C) w') : CW P N c R σ w := fun a ha => by
  refine wp_mono (h1 a ha) ?_
  intro e a' w' hq
  cases e with
  | normal => obtain ⟨N', σ', hf, rfl, x, hM, hC, hΦ⟩ := hq; exact ⟨N', M x ++ C, Fits.app hM hC hf hf, h2 x w' hΦ⟩
  | exit i => exact hq
  | goto l => exact hq
  | ret => exact hq
  | panic c => exact hq
  | outgrown => exact hq
structure Build (P : Program) (t : TypeId) (places : Array (Nat × Nat)) (zero : Array Value) : Prop where
  ex : ∃ fs z, P.underlying t = some (.struct fs) ∧ (P.info? t).bind (·.zero) = some z ∧ z.cells = zero ∧ ∀ w, (fs.mapM (fun (f : Field) => do pure (f.offset, ← sizeOf f.type)) : Sem (Array (Nat × Nat))).run P w = .ok places w
def nthP : List (Nat × Nat) → Nat → Option (Nat × Nat)
  | [], _ => none
  | a :: _, 0 => some a
  | _ :: l, n + 1 => nthP l n
theorem nthP_eq : ∀ (l : List (Nat × Nat)) (n : Nat), nthP l n = l[n]?
  | [], _ => by simp [nthP]
  | _ :: _, 0 => by simp [nthP]
  | _ :: l, n + 1 => by simp [nthP, nthP_eq l n]
def setRange : List Value → Nat → List Value → List Value
  | l, _, [] => l
  | l, o, v :: r => setRange (l.set o v) (o + 1) r
def fillL (places : List (Nat × Nat)) : List Value → List (Nat × Value) → Option (List Value)
  | cells, [] => some cells
  | cells, (i, v) :: rest =>
    match nthP places i with
    | none => none
    | some (off, size) => cond (Nat.beq v.cells.toList.length size) (cond (Nat.ble (off + size) cells.length) (fillL places (setRange cells off v.cells.toList) rest) none) none
theorem setRange_eq (off : Nat) : ∀ (r l : List Value) (j : Nat), (r.zipIdx j).foldl (fun (cs : Array Value) x => cs.setIfInBounds (off + x.2) x.1) l.toArray = (setRange l (off + j) r).toArray
  | [], _, _ => by simp [setRange]
  | v :: r, l, j => by
    have := setRange_eq off r (l.set (off + j) v) (j + 1)
    simp only [List.zipIdx_cons, List.foldl_cons, List.setIfInBounds_toArray, setRange]
    rw [this, Nat.add_assoc]
theorem fillL_eq {places : Array (Nat × Nat)} : ∀ (vs : List (Nat × Value)) (cells r : List Value), fillL places.toList cells vs = some r → Instr.fill (fun i => places[i]?) cells.toArray vs = some r.toArray
  | [], cells, r, h => by simp only [fillL, Option.some.injEq] at h; subst h; simp [Instr.fill]
  | (i, v) :: vs, cells, r, h => by
    simp only [fillL, nthP_eq, Array.getElem?_toList] at h
    simp only [Instr.fill]
    cases hp : places[i]? with
    | none => rw [hp] at h; cases h
    | some os =>
      obtain ⟨off, size⟩ := os
      rw [hp] at h
      simp only at h
      cases hb : Nat.beq v.cells.toList.length size with
      | false => rw [hb] at h; cases h
      | true =>
        rw [hb] at h
        cases hl : Nat.ble (off + size) cells.length with
        | false => rw [hl] at h; cases h
        | true =>
          rw [hl] at h
          have h1 : v.cells.size = size := by simpa using Nat.eq_of_beq_eq_true hb
          have h2 : off + size ≤ cells.length := Nat.le_of_ble_eq_true hl
          simp only [cond_true] at h
          have := setRange_eq off v.cells.toList cells 0
          simp only
          rw [if_neg (by simp [h1, h2]), ← Array.foldl_toList, Array.toList_zipIdx, this]
          exact fillL_eq vs _ r h
theorem ex_build {t : TypeId} {parts : Array (Nat × Operand)} {vs : List (Nat × Value)} {places : Array (Nat × Nat)} {zero cells : List Value} {dst : Option Nat} {g : Option (Nat × Bool)} (hB : Build P t places zero.toArray)
    (hp : parts.toList.map (fun p => (p.1, σ.ev p.2)) = vs.map (fun q => (q.1, some q.2))) (hf' : fillL places.toList zero vs = some cells) : Ex P σ ⟨dst, .build t parts, T, pos, after, g⟩ w (.agg cells.toArray) w := fun ρ ha => by
  have hf := fillL_eq vs zero cells hf'
  obtain ⟨fs, z, hu, hz, hzc, hr⟩ := hB.ex
  obtain ⟨i, hi, hz'⟩ := Option.bind_eq_some_iff.1 hz
  have hparts : (parts.map fun p => (p.1, ρ p.2)).toList = vs := by
    rw [Array.toList_map]
    clear hf hf'
    revert hp
    generalize parts.toList = l
    intro hp
    induction l generalizing vs with
    | nil => cases vs with | nil => rfl | cons _ _ => simp at hp
    | cons p l ih =>
      cases vs with
      | nil => simp at hp
      | cons x q =>
        simp only [List.map_cons, List.cons.injEq, Prod.mk.injEq] at hp ⊢
        exact ⟨Prod.ext hp.1.1 (ha _ _ hp.1.2), ih hp.2⟩
  rw [Array.toList_map] at hparts
  have hr' := hr w
  simp only [execOp, Instr.build, zeroValue, typeInfo, Sem.run_bind, run_program, Result.andThen_ok, hi, hz', Sem.run_pure, run_underlying hu, hr', hzc, Array.toList_map, hparts, hf]
theorem wl_store1L {rest : List Oper} {t U : TypeId} {x y : Operand} {v : Value} {b o : Nat} {cs : Array Value} (hx : σ.ev x = some (.pointer (some ⟨b, o, none⟩))) (hy : σ.ev y = some v) (h1 : v.oneCell' = true) (hs : sizeB P t = some 1)
    (hb : w.heap[b]? = some (.cells cs U (0, 0))) (hle : o < cs.size)
    (h : ∀ w', w'.heap[b]? = some (.cells (cs.setIfInBounds o v) U (0, 0)) → Evo [b] w w' → WL P N ops R rest σ w') :
    WL P N ops R (⟨none, .store t x y, T, pos, after, none⟩ :: rest) σ w := wl_store1 hx hy h1 hs hb (by simpa using hle) h
theorem ex_makeFunc {f : Fn} {xs : Array Operand} {vs : List Value} {dst : Option Nat} {g : Option (Nat × Bool)} (hxs : xs.toList.map σ.ev = vs.map some) :
    Ex P σ ⟨dst, .makeFunc f #[] xs, T, pos, after, g⟩ w (.func f #[] vs.toArray) w := fun ρ ha => by
  have hargs : xs.map ρ = vs.toArray := by
    apply Array.ext'
    rw [Array.toList_map]
    revert hxs
    generalize xs.toList = l
    intro hxs
    induction l generalizing vs with
    | nil => cases vs with | nil => rfl | cons _ _ => simp at hxs
    | cons x l ih =>
      cases vs with
      | nil => simp at hxs
      | cons v vs =>
        simp only [List.map_cons, List.cons.injEq] at hxs
        simp only [List.map_cons, ha x v hxs.1]
        exact congrArg _ (ih hxs.2)
  simp [execOp, Instr.makeFunc, hargs]
theorem ex_extract {x : Operand} {vs : Array Value} {i : Nat} {v : Value} {dst : Option Nat} {g : Option (Nat × Bool)} (hx : σ.ev x = some (.tuple vs)) (hv : vs[i]? = some v) : Ex P σ ⟨dst, .extract x i, T, pos, after, g⟩ w v w := fun ρ ha => by
  simp [execOp, ha x _ hx, Instr.extract, hv]
theorem wl_call1 {rest : List Oper} {f : FuncId} {xs : Array Operand} {ats : Array TypeId} {vs : List Value} {Φ : Value → World → Prop} (hgo : Goes P f) (hxs : xs.toList.map σ.ev = vs.map some)
    (hc : Calls P f vs.toArray w (Ret Φ)) (hd : Nat.blt d N.1 = true) (h : ∀ v w', Φ v w' → WL P N ops R rest ((d, v) :: σ) w') :
    WL P N ops R (⟨some d, .call ⟨.value (.func f), xs, ats⟩, T, pos, after, none⟩ :: rest) σ w := wl_call hgo hxs hc (fun k hk => by cases hk; exact hd) h
end
section
variable {P : Program} {σ : Env} {w : World}
def resOf (tmps : Array Value) : ResultVar → Sem Value
  | .tmp t => pure (tmps.getD t undef)
  | .cell a t => do loadVar t (← asAddr (tmps.getD a undef))
def ResOk (P : Program) (σ : Env) (w : World) (r : ResultVar) (v : Value) : Prop := ∀ a, Fits (a.tmps.size, a.defers) σ a → (resOf a.tmps r).run P w = .ok v w
theorem ResOk.tmp {t : Tmp} {v : Value} (h : σ.get t = some v) : ResOk P σ w (.tmp t) v := fun a ha => by simp only [resOf, Sem.run_pure, ha.2.2 t v h]
theorem ResOk.cell1 {t : Tmp} {ty U : TypeId} {b : Nat} {cs : Array Value} {fz : Nat × Nat} {v : Value} (h : σ.get t = some (.pointer (some ⟨b, 0, none⟩))) (ha : aggB P ty = some false) (hb : w.heap[b]? = some (.cells cs U fz)) (hv : nth cs.toList 0 = some v) : ResOk P σ w (.cell t ty) v := fun a hf => by
  simp [resOf, hf.2.2 t _ h, asAddr, loadVar, run_isAgg ha, cell_nth hb hv]
theorem ResOk.cellA {t : Tmp} {ty U : TypeId} {b n : Nat} {cs : Array Value} {fz : Nat × Nat} (h : σ.get t = some (.pointer (some ⟨b, 0, none⟩))) (ha : aggB P ty = some true) (hs : sizeB P ty = some n) (hb : w.heap[b]? = some (.cells cs U fz)) (hl : cs.size = n) : ResOk P σ w (.cell t ty) (.agg cs) := fun a hf => by
  obtain ⟨inf, hin, hsz⟩ := Option.map_eq_some_iff.1 hs
  have hr := run_loadCellsFrom (P := P) (w := w) b 0 n 0 #[] cs.toList (by simpa using hl) (fun j v hv => cell_blk hb (by simpa using hv))
  simp [resOf, hf.2.2 t _ h, asAddr, loadVar, run_isAgg ha, sizeOf, typeInfo, hin, hsz, loadCells, hr]
theorem results_eq (fn : Func) (tmps : Array Value) : results fn tmps = ((fn.results.mapM (resOf tmps)) >>= fun vs => pure (if h : vs.size = 1 then vs[0] else Value.tuple vs)) := by
  unfold results
  congr 1
theorem body_retC1 {n : Nat} {fn : Func} {r : ResultVar} {v : Value} {Φ : Value → World → Prop} (hr : fn.results = #[r]) (h1 : ResOk P σ w r v) (h : Φ v w) : bodyR P fn (Ret Φ) .ret (n, []) σ w := ⟨rfl, fun a ha => by
  refine ⟨v, ?_, _, rfl, h⟩
  rw [results_eq, hr]
  simp [h1 a ha]⟩
theorem body_retC2 {n : Nat} {fn : Func} {r r' : ResultVar} {v v' : Value} {Φ : Value → World → Prop} (hr : fn.results = #[r, r']) (h1 : ResOk P σ w r v) (h2 : ResOk P σ w r' v') (h : Φ (.tuple #[v, v']) w) : bodyR P fn (Ret Φ) .ret (n, []) σ w := ⟨rfl, fun a ha => by
  refine ⟨.tuple #[v, v'], ?_, _, rfl, h⟩
  rw [results_eq, hr]
  simp [h1 a ha, h2 a ha]⟩
theorem body_retC3 {n : Nat} {fn : Func} {r r' r'' : ResultVar} {v v' v'' : Value} {Φ : Value → World → Prop} (hr : fn.results = #[r, r', r'']) (h1 : ResOk P σ w r v) (h2 : ResOk P σ w r' v') (h3 : ResOk P σ w r'' v'') (h : Φ (.tuple #[v, v', v'']) w) : bodyR P fn (Ret Φ) .ret (n, []) σ w := ⟨rfl, fun a ha => by
  refine ⟨.tuple #[v, v', v''], ?_, _, rfl, h⟩
  rw [results_eq, hr]
  simp [h1 a ha, h2 a ha, h3 a ha]⟩
theorem body_ret3 {n : Nat} {fn : Func} {t u x : Tmp} {v v' v'' : Value} {Φ : Value → World → Prop} (hr : fn.results = #[.tmp t, .tmp u, .tmp x]) (hv : σ.get t = some v) (hv' : σ.get u = some v') (hv'' : σ.get x = some v'') (h : Φ (.tuple #[v, v', v'']) w) : bodyR P fn (Ret Φ) .ret (n, []) σ w :=
  body_retC3 hr (.tmp hv) (.tmp hv') (.tmp hv'') h
end
section
variable {P : Program} {N : NN} {R : Post} {σ : Env} {w : World} {ops : Array Oper} {rest : List Oper} {d : Nat} {op : Op} {T : TypeId} {pos : String} {after : Array Edge}
theorem wl_n {j : Nat} {pol b : Bool} {oj : Oper} {t : Nat} (h : WL P N ops R rest ((d, undef) :: σ) w) (hj : ops[j]? = some oj := by rfl) (ht : oj.dst = some t := by rfl) (hv : σ.get t = some (.bool b) := by rfl) (hb : b = !pol := by rfl) (hN : Nat.blt t N.1 = true := by rfl) (hd : Nat.blt d N.1 = true := by rfl) :
    WL P N ops R (⟨some d, op, T, pos, after, some (j, pol)⟩ :: rest) σ w := wl_no hj ht hv hb hN hd h
theorem wl_u {j : Nat} {pol : Bool} {oj : Oper} {t : Nat} (h : WL P N ops R rest ((d, undef) :: σ) w) (hj : ops[j]? = some oj := by rfl) (ht : oj.dst = some t := by rfl) (hv : σ.get t = some undef := by rfl) (hN : Nat.blt t N.1 = true := by rfl) (hd : Nat.blt d N.1 = true := by rfl) :
    WL P N ops R (⟨some d, op, T, pos, after, some (j, pol)⟩ :: rest) σ w := wl_nou hj ht hv hN hd h
theorem wl_g {dst : Option Nat} {j : Nat} {pol : Bool} {oj : Oper} {t : Nat} (h : WL P N ops R (⟨dst, op, T, pos, after, none⟩ :: rest) σ w) (hj : ops[j]? = some oj := by rfl) (ht : oj.dst = some t := by rfl) (hv : σ.get t = some (.bool pol) := by rfl) (hN : Nat.blt t N.1 = true := by rfl) :
    WL P N ops R (⟨dst, op, T, pos, after, some (j, pol)⟩ :: rest) σ w := wl_go hj ht hv hN h
theorem wl_m {x : Operand} {v : Value} (h : WL P N ops R rest ((d, v) :: σ) w) (hx : σ.ev x = some v := by rfl) (hd : Nat.blt d N.1 = true := by rfl) : WL P N ops R (⟨some d, .move x, T, pos, after, none⟩ :: rest) σ w := wl_val hd (ex_move hx) h
theorem wl_a {x : Operand} {v : Value} (h : WL P N ops R rest ((d, v) :: σ) w) (hx : σ.ev x = some v := by rfl) (hd : Nat.blt d N.1 = true := by rfl) : WL P N ops R (⟨some d, .assign x, T, pos, after, none⟩ :: rest) σ w := wl_val hd (ex_assign hx) h
theorem wl_pf {c x y : Operand} {v : Value} (h : WL P N ops R rest ((d, v) :: σ) w) (hc : σ.ev c = some (.bool false) := by rfl) (hx : σ.ev y = some v := by rfl) (hd : Nat.blt d N.1 = true := by rfl) : WL P N ops R (⟨some d, .pick c x y, T, pos, after, none⟩ :: rest) σ w := wl_val hd (ex_pick_f hc hx) h
theorem wl_pt {c x y : Operand} {v : Value} (h : WL P N ops R rest ((d, v) :: σ) w) (hc : σ.ev c = some (.bool true) := by rfl) (hx : σ.ev x = some v := by rfl) (hd : Nat.blt d N.1 = true := by rfl) : WL P N ops R (⟨some d, .pick c x y, T, pos, after, none⟩ :: rest) σ w := wl_val hd (ex_pick_t hc hx) h
end
end Go.W
namespace Go.W
set_option linter.unusedSimpArgs false
set_option linter.unusedVariables false
theorem wrapU {k : IntKind} (hk : k.signed = false) (n : Nat) : k.wrap (n : Int) = ((n % 2 ^ k.bits : Nat) : Int) := by
  cases k <;> simp [IntKind.signed] at hk <;> simp [IntKind.wrap, IntKind.signed, IntKind.bits]
def i64 (n : Int) : Int := if n % 18446744073709551616 < 9223372036854775808 then n % 18446744073709551616 else n % 18446744073709551616 - 18446744073709551616
section
variable {P : Program} {σ : Env} {w : World} {dst : Option Nat} {T : TypeId} {pos : String} {after : Array Edge} {g : Option (Nat × Bool)}
theorem bitsBack {k : IntKind} {m n : Nat} (hk : k.signed = false) (hm : m < 2 ^ k.bits) (hn : n < 2 ^ k.bits) : (BitVec.ofInt k.bits m).toNat = m ∧ (BitVec.ofInt k.bits n).toNat = n := by
  constructor
  · rw [BitVec.ofInt_natCast, BitVec.toNat_ofNat, Nat.mod_eq_of_lt hm]
  · rw [BitVec.ofInt_natCast, BitVec.toNat_ofNat, Nat.mod_eq_of_lt hn]
theorem ex_orN {x y : Operand} {t t' : TypeId} {k : IntKind} {m n : Nat} {x' z : Int} (hx : σ.ev x = some (.int k x')) (hy : σ.ev y = some (.int k z)) (hm : x' = ((m : Nat) : Int)) (hz : z = ((n : Nat) : Int)) (hk : k.signed = false) (h1 : m < 2 ^ k.bits) (h2 : n < 2 ^ k.bits) :
    Ex P σ ⟨dst, .binOp .or t x y t', T, pos, after, g⟩ w (.int k ((m ||| n : Nat) : Int)) w := fun ρ h => by
  subst hm hz
  obtain ⟨e1, e2⟩ := bitsBack hk h1 h2
  simp only [execOp, h x _ hx, h y _ hy]
  have hr := wrapU hk (m ||| n)
  rw [Nat.mod_eq_of_lt (Nat.or_lt_two_pow h1 h2)] at hr
  simp only [eqGuard, Go.binOp, Op.intBits, Sem.run_bind, Sem.run_pure, Result.andThen_ok, BitVec.toNat_or, e1, e2, hr]
  simp
theorem ex_conv {x : Operand} {t t' : TypeId} {k k' : IntKind} {n : Int} (hx : σ.ev x = some (.int k n)) (ht : P.underlying t = some (.int k)) (ht' : P.underlying t' = some (.int k')) :
    Ex P σ ⟨dst, .convert t t' x, T, pos, after, g⟩ w (.int k' (k'.wrap n)) w := fun ρ h => by
  simp [execOp, h x _ hx, convert, run_underlying ht, run_underlying ht', Conv.intToInt]
theorem ex_convF {x : Operand} {t t' : TypeId} {k k' : IntKind} {n : Int} (hx : σ.ev x = some (.int k n)) (ht : P.underlying t = some (.int k)) (ht' : P.underlying t' = some (.int k')) (h1 : k'.min ≤ n) (h2 : n ≤ k'.max) :
    Ex P σ ⟨dst, .convert t t' x, T, pos, after, g⟩ w (.int k' n) w := by
  have := ex_conv (w := w) (dst := dst) (T := T) (pos := pos) (after := after) (g := g) hx ht ht'
  rwa [wrap_of h1 h2] at this
end
def RB : Rel Nat := fun _ _ vs n => vs = [.int .u8 (n : Int)] ∧ n < 256
theorem RB.pers : RB.Pers := fun _ _ _ _ _ _ h => h
theorem RB.fresh : RB.Fresh := fun _ _ _ _ _ _ h => h
theorem RB.one : ∀ X w vs d, RB X w vs d → ∀ u, u ∈ vs → u.oneCell' = true := fun _ _ _ _ h u hu => by
  obtain ⟨rfl, _⟩ := h; simp at hu; subst hu; rfl
def bstr (ds : List Nat) : ByteArray := ⟨(ds.map UInt8.ofNat).toArray⟩
theorem bstr_inj {a b : List Nat} (ha : ∀ x, x ∈ a → x < 256) (hb : ∀ x, x ∈ b → x < 256) : bstr a = bstr b ↔ a = b := by
  constructor
  · intro h
    have h1 : a.map UInt8.ofNat = b.map UInt8.ofNat := by
      have := congrArg (fun x : ByteArray => x.data.toList) h
      simpa [bstr] using this
    clear h
    induction a generalizing b with
    | nil => cases b with | nil => rfl | cons _ _ => simp at h1
    | cons x a ih =>
      cases b with
      | nil => simp at h1
      | cons y b =>
        simp only [List.map_cons, List.cons.injEq] at h1
        have hx := ha x (by simp)
        have hy := hb y (by simp)
        have h2 := congrArg UInt8.toNat h1.1
        simp [UInt8.toNat_ofNat'] at h2
        rw [ih (fun z hz => ha z (List.mem_cons_of_mem _ hz)) (fun z hz => hb z (List.mem_cons_of_mem _ hz)) h1.2]
        congr 1
        omega
  · intro h; rw [h]
section
variable {P : Program} {σ : Env} {w : World} {dst : Option Nat} {T : TypeId} {pos : String} {after : Array Edge} {g : Option (Nat × Bool)}
end
section
variable {P : Program} {N : NN} {R : Post} {σ : Env} {w : World} {ops : Array Oper} {rest : List Oper} {d : Nat} {T : TypeId} {pos : String} {after : Array Edge}
def makeB (P : Program) (t : TypeId) : Option (TypeId × Nat × Nat × Array Value) :=
  match P.underlying t with
  | some (.slice e) => match P.info? e with
    | some i => match i.zero with
      | some z => if z.cells.size = i.size then some (e, i.size, i.bytes, z.cells) else none
      | none => none
    | none => none
  | _ => none
def zeros (z : Array Value) (n : Nat) : List Value := (List.replicate n z.toList).flatten
theorem zeros_len (z : Array Value) (n : Nat) : (zeros z n).length = n * z.size := by simp [zeros]
theorem madeCells_get {z : Array Value} {n k : Nat} (hz : 0 < z.size) (h : k < n) : (madeCells z n)[k]? = some (z[k % z.size]'(Nat.mod_lt _ hz)) := by
  simp [madeCells, h, Nat.mod_lt _ hz]
theorem zeros_get {z : Array Value} : ∀ {n k : Nat} (hz : 0 < z.size), k < n * z.size → (zeros z n)[k]? = some (z[k % z.size]'(Nat.mod_lt _ hz))
  | 0, k, _, h => by simp at h
  | n + 1, k, hz, h => by
    have e : zeros z (n + 1) = z.toList ++ zeros z n := by simp [zeros, List.replicate_succ]
    rw [e, List.getElem?_append]
    split
    · rename_i hk
      simp at hk
      simp [hk, Nat.mod_eq_of_lt hk]
    · rename_i hk
      simp at hk
      rw [Nat.add_mul] at h
      rw [zeros_get hz (by simp; omega)]
      simp only [Array.length_toList, Option.some.injEq]
      congr 1
      rw [Nat.mod_eq_sub_mod hk]
theorem madeCells_zeros {z : Array Value} {n l : Nat} (hz : 0 < z.size) (hl : l ≤ n) : ((madeCells z (n * z.size)).toList.take (l * z.size)) = zeros z l := by
  have hle : l * z.size ≤ n * z.size := Nat.mul_le_mul_right _ hl
  apply List.ext_getElem?
  intro k
  rw [List.getElem?_take]
  split
  · rename_i hk
    rw [zeros_get hz hk]
    have := madeCells_get (z := z) (n := n * z.size) (k := k) hz (by omega)
    simpa using this
  · rename_i hk
    rw [List.getElem?_eq_none]
    rw [zeros_len]; omega
theorem wl_make {t e : TypeId} {x y : Operand} {kl kc : IntKind} {lv cv : Int} {sz bytes len c : Nat} {z : Array Value} (hd : Nat.blt d N.1 = true) (hx : σ.ev x = some (.int kl lv)) (hy : σ.ev y = some (.int kc cv)) (hf : makeB P t = some (e, sz, bytes, z))
    (hlv : lv = (len : Nat)) (hcv : cv = (c : Nat)) (hlc : len ≤ c) (hz : 0 < z.size) (hb : bytes * c ≤ 140737488355328) (hcm : c ≤ 140737488355328)
    (h : ∀ b w', OwnS w' e sz (some ⟨b, 0, none⟩) len c (zeros z len) (some b) → w.heap.size = b → Evo [] w w' → WL P N ops R rest ((d, .slice (some ⟨b, 0, none⟩) len c) :: σ) w') :
    WL P N ops R (⟨some d, .makeSlice t x y, T, pos, after, none⟩ :: rest) σ w := by
  subst hlv hcv
  simp only [makeB] at hf
  split at hf <;> try cases hf
  rename_i e' ht
  split at hf <;> try cases hf
  rename_i i hi
  split at hf <;> try cases hf
  rename_i z' hz'
  split at hf <;> try cases hf
  rename_i hsz
  have hbb : (i.bytes : Int) * (c : Int) ≤ 281474976710656 := by
    have : ((i.bytes * c : Nat) : Int) ≤ 281474976710656 := by omega
    rwa [Int.natCast_mul] at this
  have hr := run_make (P := P) w t _ i _ ht hi hz' kl kc len c (by omega) (by omega) hbb (by omega)
  simp only [Int.toNat_natCast] at hr
  refine wl_val (w' := w.alloc (.cells (madeCells z'.cells (c * i.size)) e)) hd (fun ρ ha => ?_) (h w.heap.size _ ⟨by rw [zeros_len, hsz], .inr ⟨w.heap.size, c, _, rfl, rfl, heap_alloc_new w _, hlc, by unfold maxLen; omega, size_madeCells _ _, ?_⟩⟩ rfl (evo_alloc w _))
  · simp [execOp, ha x _ hx, ha y _ hy, hr]
  · rw [← hsz]; exact madeCells_zeros hz hlc
end
end Go.W
namespace Go.W
set_option linter.unusedSimpArgs false
set_option linter.unusedVariables false
def putAt (xs : List Value) (o : Nat) (vs : List Value) : List Value := xs.take o ++ vs ++ xs.drop (o + vs.length)
theorem putAt_len {xs vs : List Value} {o : Nat} (h : o + vs.length ≤ xs.length) : (putAt xs o vs).length = xs.length := by
  simp only [putAt, List.length_append, List.length_take, List.length_drop]; omega
theorem putAt_take {xs vs : List Value} {o m : Nat} (h : o + vs.length ≤ m) (hm : m ≤ xs.length) : (putAt xs o vs).take m = putAt (xs.take m) o vs := by
  simp only [putAt]
  have h1 : (xs.take o ++ vs).length = o + vs.length := by simp only [List.length_append, List.length_take]; omega
  rw [List.take_append, h1, List.take_of_length_le (by omega), List.take_take, Nat.min_eq_left (by omega), List.drop_take]
theorem OwnS.put {w w' : World} {e : TypeId} {sz : Nat} {a : Option Addr} {n c : Nat} {xs vs : List Value} {ob : Option Nat} {g : Nat} {cur : Array Value} {U : TypeId} {o k : Nat} (h : OwnS w e sz a n c xs ob) (hg : ob = some g) (hb : w.heap[g]? = some (.cells cur U (0, 0))) (ho : o = k * sz) (hk : k < n) (hv : vs.length = sz)
    (hb' : w'.heap[g]? = some (.cells (cur.toList.take o ++ vs ++ cur.toList.drop (o + sz)).toArray U (0, 0))) : OwnS w' e sz a n c (putAt xs o vs) ob := by
  subst hg ho
  have hl := h.1
  have hle : k * sz + sz ≤ n * sz := by have : (k + 1) * sz ≤ n * sz := Nat.mul_le_mul_right _ hk; rw [Nat.add_mul] at this; omega
  have hxl : xs.length = n * sz := hl
  refine ⟨by rw [putAt_len (by rw [hv]; omega)]; exact hl, ?_⟩
  rcases h.2 with ⟨_, _, h2⟩ | ⟨g', cap, cur', hg, hv2, hbb, hn, hc, hs, ht⟩
  · cases h2
  · cases hg
    rw [hb] at hbb
    cases hbb
    have hncs : n * sz ≤ cap * sz := Nat.mul_le_mul_right _ hn
    refine .inr ⟨g, cap, _, rfl, hv2, hb', hn, hc, ?_, ?_⟩
    · simp only [List.size_toArray, List.length_append, List.length_take, List.length_drop, Array.length_toList]; omega
    · have := putAt_take (xs := cur.toList) (vs := vs) (o := k * sz) (m := n * sz) (by rw [hv]; omega) (by simp only [Array.length_toList]; omega)
      rw [ht] at this
      rw [← this]
      simp only [putAt, hv]
structure Sl where
  a : Option Addr
  n : Nat
  c : Nat
  ob : Option Nat
abbrev Sl.v (s : Sl) : Value := .slice s.a s.n s.c
structure Fam (w : World) (e : TypeId) (sz N : Nat) (S : Nat → Sl) (xs : Nat → List Value) : Prop where
  own : ∀ i, i < N → OwnS w e sz (S i).a (S i).n (S i).c (xs i) (S i).ob
  ap : ∀ i j, i < N → j < N → i ≠ j → Apart (S i).ob (S j).ob
section
variable {w w' : World} {e : TypeId} {sz N : Nat} {S : Nat → Sl} {xs : Nat → List Value} {X : List Nat} {i : Nat}
theorem Fam.evo (h : Fam w e sz N S xs) (he : Evo X w w') (hx : ∀ k, k < N → ∀ g, (S k).ob = some g → g ∉ X) : Fam w' e sz N S xs := ⟨fun k hk => (h.own k hk).evo he (hx k hk), h.ap⟩
theorem Fam.evo0 (h : Fam w e sz N S xs) (he : Evo [] w w') : Fam w' e sz N S xs := h.evo he (fun _ _ _ _ h => by cases h)
theorem Fam.lt (h : Fam w e sz N S xs) {k : Nat} (hk : k < N) : Lt w (S k).ob := Lt.own (h.own k hk)
theorem Fam.upd (h : Fam w e sz N S xs) (hi : i < N) {s : Sl} {ys : List Value} (ho : OwnS w' e sz s.a s.n s.c ys s.ob) (he : Evo (S i).ob.toList w w') (hb : s.ob = (S i).ob ∨ Ge w s.ob) : Fam w' e sz N (fun k => if k = i then s else S k) (fun k => if k = i then ys else xs k) := by
  have key : ∀ k, k < N → k ≠ i → Apart s.ob (S k).ob := fun k hk hki => by
    rcases hb with hb | hb
    · rw [hb]; exact h.ap i k hi hk (fun h => hki h.symm)
    · exact (Apart.fresh (h.lt hk) hb).symm
  refine ⟨fun k hk => ?_, fun a b ha hb' hab => ?_⟩
  · by_cases hki : k = i
    · subst hki; simp only [if_true]; exact ho
    · simp only [if_neg hki]; exact (h.own k hk).evo he (h.ap k i hk hi hki).own
  · by_cases h1 : a = i
    · subst h1
      simp only [if_true, if_neg (fun h => hab h.symm : ¬ b = a)]
      exact key b hb' (fun h => hab h.symm)
    · by_cases h2 : b = i
      · subst h2
        simp only [if_true, if_neg h1]
        exact (key a ha h1).symm
      · simp only [if_neg h1, if_neg h2]; exact h.ap a b ha hb' hab
theorem Fam.congr (h : Fam w e sz N S xs) {S' : Nat → Sl} {ys : Nat → List Value} (h1 : ∀ k, k < N → S' k = S k) (h2 : ∀ k, k < N → ys k = xs k) : Fam w e sz N S' ys :=
  ⟨fun k hk => by rw [h1 k hk, h2 k hk]; exact h.own k hk, fun a b ha hb hab => by rw [h1 a ha, h1 b hb]; exact h.ap a b ha hb hab⟩
theorem own_addr {a : Option Addr} {n c : Nat} {ys : List Value} {ob : Option Nat} (h : OwnS w e sz a n c ys ob) : a = ob.map fun g => ⟨g, 0, none⟩ := by
  rcases h.2 with ⟨h1, _, h3⟩ | ⟨g, cap, cur, hg, hv, _⟩
  · cases h1; subst h3; rfl
  · cases hv; subst hg; rfl
end
def Reads (w : World) (sz : Nat) (s : Sl) (mk : List Value) : Prop := ∀ j, j < s.n → ∃ g, s.a = some ⟨g, 0, none⟩ ∧ s.ob = some g ∧ CellsAt w g (0 + j * sz) mk
abbrev rep (m : Nat) (mk : List Value) : List Value := (List.replicate m mk).flatten
theorem rep_len (m : Nat) (mk : List Value) : (rep m mk).length = m * mk.length := by simp [rep]
theorem rep_succ (m : Nat) (mk : List Value) : rep (m + 1) mk = rep m mk ++ mk := by
  simp [rep, List.replicate_succ']
theorem rep_at {m : Nat} {mk : List Value} {j i : Nat} (hj : j < m) (hi : i < mk.length) : (rep m mk)[j * mk.length + i]? = mk[i]? := by
  induction m with
  | zero => omega
  | succ m ih =>
    rw [rep_succ]
    by_cases h : j < m
    · rw [List.getElem?_append_left (by rw [rep_len]; have : (j + 1) * mk.length ≤ m * mk.length := Nat.mul_le_mul_right _ h; rw [Nat.add_mul] at this; omega)]
      exact ih h
    · obtain rfl : j = m := by omega
      rw [List.getElem?_append_right (by rw [rep_len]; omega), rep_len, Nat.add_sub_cancel_left]
theorem OwnS.reads {w : World} {e : TypeId} {sz : Nat} {a : Option Addr} {n c m : Nat} {mk : List Value} {ob : Option Nat} (h : OwnS w e sz a n c (rep n mk) ob) (hm : mk.length = sz) {s : Sl} (hs : s.a = a) (hb : s.ob = ob) (hn : s.n ≤ n) : Reads w sz s mk := fun j hj => by
  obtain ⟨g, hg, ha, hc⟩ := h.cells (by omega)
  refine ⟨g, by rw [hs, ha], by rw [hb, hg], fun i v hv => ?_⟩
  have hi := (List.getElem?_eq_some_iff.1 hv).1
  have := hc (j * sz + i) v (by rw [← hm, rep_at (by omega) hi]; exact hv)
  rw [show 0 + j * sz + i = 0 + (j * sz + i) by omega]; exact this
theorem Reads.evo {w w' : World} {sz : Nat} {s : Sl} {mk : List Value} {X : List Nat} (h : Reads w sz s mk) (he : Evo X w w') (hx : ∀ g, s.ob = some g → g ∉ X) : Reads w' sz s mk := fun j hj => by
  obtain ⟨g, h1, h2, h3⟩ := h j hj
  exact ⟨g, h1, h2, h3.evo he (hx g h2)⟩
structure Pair (w : World) (e : TypeId) (sz N : Nat) (s t : Nat → Sl) (mk : Nat → List Value) : Prop where
  fam : Fam w e sz N t (fun k => rep (t k).n (mk k))
  lt : ∀ k, k < N → Lt w (s k).ob
  ap : ∀ i j, i < N → j < N → i ≠ j → Apart (t i).ob (s j).ob
  old : ∀ k, k < N → ((t k).ob = (s k).ob ∧ (s k).n ≤ (t k).n) ∨ (Apart (t k).ob (s k).ob ∧ Reads w sz (s k) (mk k))
  addr : ∀ k, k < N → (s k).a = (s k).ob.map fun g => ⟨g, 0, none⟩
section
variable {w w' : World} {e : TypeId} {sz N : Nat} {s t : Nat → Sl} {mk : Nat → List Value} {X : List Nat} {i : Nat}
theorem Pair.reads (h : Pair w e sz N s t mk) (hm : ∀ k, (mk k).length = sz) {k : Nat} (hk : k < N) : Reads w sz (s k) (mk k) := by
  rcases h.old k hk with ⟨h1, h2⟩ | ⟨_, h2⟩
  · have ho := h.fam.own k hk
    exact OwnS.reads (m := 0) ho (hm k) (by rw [h.addr k hk, own_addr ho, h1]) h1.symm h2
  · exact h2
theorem Pair.evo0 (h : Pair w e sz N s t mk) (he : Evo [] w w') : Pair w' e sz N s t mk where
  fam := h.fam.evo0 he
  lt := fun k hk g hg => Nat.lt_of_lt_of_le (h.lt k hk g hg) he.size
  ap := h.ap
  old := fun k hk => (h.old k hk).imp id fun ⟨h1, h2⟩ => ⟨h1, h2.evo he (fun _ _ h => by cases h)⟩
  addr := h.addr
theorem Pair.evo (h : Pair w e sz N s t mk) (he : Evo X w w') (h1 : ∀ k, k < N → ∀ g, (t k).ob = some g → g ∉ X) (h2 : ∀ k, k < N → ∀ g, (s k).ob = some g → g ∉ X) : Pair w' e sz N s t mk where
  fam := h.fam.evo he h1
  lt := fun k hk g hg => Nat.lt_of_lt_of_le (h.lt k hk g hg) he.size
  ap := h.ap
  old := fun k hk => (h.old k hk).imp id fun ⟨h3, h4⟩ => ⟨h3, h4.evo he (h2 k hk)⟩
  addr := h.addr
theorem Pair.app (h : Pair w e sz N s t mk) (hm : ∀ k, (mk k).length = sz) (hi : i < N) {r : Sl} (hn : r.n = (t i).n + 1) (ho : OwnS w' e sz r.a r.n r.c (rep r.n (mk i)) r.ob) (he : Evo (t i).ob.toList w w') (hb : r.ob = (t i).ob ∨ ∃ g, r.ob = some g ∧ w.heap.size ≤ g ∧ Evo [] w w') :
    Pair w' e sz N s (fun k => if k = i then r else t k) mk := by
  have hb' : r.ob = (t i).ob ∨ Ge w r.ob := hb.imp id fun ⟨g, h1, h2, _⟩ => fun g' hg' => by rw [h1] at hg'; cases hg'; exact h2
  have hsz := he.size
  refine ⟨(h.fam.upd hi ho he hb').congr (fun _ _ => rfl) (fun k hk => ?_), fun k hk g hg => Nat.lt_of_lt_of_le (h.lt k hk g hg) hsz, fun a b ha hb2 hab => ?_, fun k hk => ?_, h.addr⟩
  · by_cases hki : k = i
    · subst hki; simp only [if_true]
    · simp only [if_neg hki]
  · by_cases h1 : a = i
    · subst h1
      simp only [if_true]
      rcases hb' with h2 | h2
      · rw [h2]; exact h.ap a b ha hb2 hab
      · exact (Apart.fresh (h.lt b hb2) h2).symm
    · simp only [if_neg h1]; exact h.ap a b ha hb2 hab
  · by_cases hki : k = i
    · subst hki
      simp only [if_true]
      rcases hb with h1 | ⟨g, h1, h2, h3⟩
      · rw [h1, hn]
        rcases h.old k hk with ⟨h4, h5⟩ | ⟨h4, h5⟩
        · exact .inl ⟨h4, by omega⟩
        · exact .inr ⟨h4, h5.evo he (Apart.symm h4).own⟩
      · refine .inr ⟨(Apart.fresh (h.lt k hk) (fun g' hg' => by rw [h1] at hg'; cases hg'; exact h2)).symm, (h.reads hm hk).evo h3 (fun _ _ h => by cases h)⟩
    · simp only [if_neg hki]
      rcases h.old k hk with h4 | ⟨h4, h5⟩
      · exact .inl h4
      · exact .inr ⟨h4, h5.evo he ((h.ap i k hi hk (fun h => hki h.symm)).symm).own⟩
end
end Go.W
namespace Go.W
set_option linter.unusedSimpArgs false
set_option linter.unusedVariables false
def sb (s : ByteArray) (n : Nat) : Nat := (s.get! n).toNat
theorem sb_lt (s : ByteArray) (n : Nat) : sb s n < 256 := (s.get! n).toNat_lt
theorem sb_get (s : ByteArray) (n : Nat) (h : n < s.size) : sb s n = (s[n]'h).toNat := by
  unfold sb
  simp [ByteArray.get!, getElem!_pos, h]
  rfl
section
variable {P : Program} {σ : Env} {w : World} {dst : Option Nat} {T : TypeId} {pos : String} {after : Array Edge} {g : Option (Nat × Bool)}
theorem ex_sidx {x i : Operand} {t : TypeId} {k : IntKind} {s : ByteArray} {z : Int} {n : Nat} (hx : σ.ev x = some (.string s)) (hi : σ.ev i = some (.int k z)) (ht : P.underlying t = some .string) (hz : z = (n : Int)) (hn : n < s.size) :
    Ex P σ ⟨dst, .index t x i, T, pos, after, g⟩ w (.int .u8 (sb s n : Nat)) w := fun ρ h => by
  subst hz
  have hc : 0 ≤ (n : Int) ∧ (n : Int) < s.size := ⟨by omega, by omega⟩
  have := run_index_string (P := P) w t s k n ht
  rw [dif_pos hc] at this
  simp only [execOp, h x _ hx, h i _ hi, Sem.run_bind, this, Result.andThen_ok, Sem.run_pure, sb_get s n hn]
  rfl
theorem ex_ssub {x lo hi : Operand} {t : TypeId} {s : ByteArray} {lv hv : Int} {l h : Nat} (hx : σ.ev x = some (.string s)) (hlo : σ.ev lo = some (.int .i64 lv)) (hhi : σ.ev hi = some (.int .i64 hv)) (ht : P.underlying t = some .string) (hl : lv = (l : Int)) (hh : hv = (h : Int)) (hlh : l ≤ h) (hhc : h ≤ s.size) :
    Ex P σ ⟨dst, .slice t x (some lo) (some hi) none, T, pos, after, g⟩ w (.string (s.extract l h)) w := fun ρ hρ => by
  subst hl hh
  have := run_slice_string (P := P) w t s .i64 .i64 (l : Int) (h : Int) ht (by omega) (by omega) (by omega)
  simp only [execOp, hρ x _ hx, Option.map_some, Option.map_none, hρ lo _ hlo, hρ hi _ hhi, Instr.sliceAt, run_underlying ht, Sem.run_bind, Result.andThen_ok, this, Int.toNat_natCast, Sem.run_pure]
theorem ex_sadd {x y : Operand} {t t' : TypeId} {a b : ByteArray} (hx : σ.ev x = some (.string a)) (hy : σ.ev y = some (.string b)) (hab : a.size + b.size ≤ 9223372036854775807) :
    Ex P σ ⟨dst, .binOp .add t x y t', T, pos, after, g⟩ w (.string (a ++ b)) w := fun ρ h => by
  simp [execOp, h x _ hx, h y _ hy, eqGuard, Go.binOp, run_string_add_sum (P := P) w a b hab]
theorem ex_min {x y : Operand} {ats : Array TypeId} {k k' : IntKind} {m n : Int} (hx : σ.ev x = some (.int k m)) (hy : σ.ev y = some (.int k' n)) :
    Ex P σ ⟨dst, .call ⟨.builtin .min, #[x, y], ats⟩, T, pos, after, g⟩ w (.int k (if n < m then n else m)) w := fun ρ h => by
  simp [execOp, resolve, h x _ hx, h y _ hy, invoke, builtin, run_min_int2]
end
section
variable {P : Program} {N : NN} {R : Post} {σ : Env} {w : World} {ops : Array Oper} {rest : List Oper} {d : Nat} {T : TypeId} {pos : String} {after : Array Edge}
theorem wl_rangeS {x : Operand} {t : TypeId} {s : ByteArray} (hd : Nat.blt d N.1 = true) (hx : σ.ev x = some (.string s)) (ht : P.underlying t = some .string)
    (h : ∀ b w', w'.heap[b]? = some (.stringIter s 0) → w.heap.size = b → Evo [] w w' → WL P N ops R rest ((d, .pointer (some ⟨b, 0, none⟩)) :: σ) w') :
    WL P N ops R (⟨some d, .range t x, T, pos, after, none⟩ :: rest) σ w := by
  refine wl_val (w' := w.alloc (.stringIter s 0)) hd (fun ρ ha => ?_) (h _ _ (alloc_blk w _) rfl (evo_alloc w _))
  simp only [execOp, ha x _ hx, Sem.run_bind, run_range_string w t s ht, Result.andThen_ok, Sem.run_pure]
  rfl
theorem evo_setObj (w : World) (b : Nat) (o : Obj) : Evo [b] w { w with heap := w.heap.setIfInBounds b o } :=
  ⟨rfl, rfl, rfl, by simp, fun k _ hx => by
    have : b ≠ k := fun e => hx (by simp [e])
    simp [Array.getElem?_setIfInBounds_ne this]⟩
theorem wl_nextS {x : Operand} {s : ByteArray} {b p : Nat} (hd : Nat.blt d N.1 = true) (hx : σ.ev x = some (.pointer (some ⟨b, 0, none⟩))) (hb : w.heap[b]? = some (.stringIter s p)) (hp : p < s.size)
    (h : ∀ w', w'.heap[b]? = some (.stringIter s (p + (Utf8.decode s p).2)) → Evo [b] w w' → WL P N ops R rest ((d, .tuple #[.bool true, .int .i64 (p : Nat), .int .i32 ((Utf8.decode s p).1 : Nat)]) :: σ) w') :
    WL P N ops R (⟨some d, .next x true, T, pos, after, none⟩ :: rest) σ w := by
  have hlt : b < w.heap.size := blk_lt hb
  refine wl_val (w' := { w with heap := w.heap.setIfInBounds b (.stringIter s (p + (Utf8.decode s p).2)) }) hd (fun ρ ha => ?_) (h _ (by simp [hlt]) (evo_setObj w b _))
  simp only [execOp, ha x _ hx, Instr.next, getObj, setObj, Sem.run_bind, Sem.run, hb, Result.andThen, hp, if_true]
  simp [goInt, Sem.run]
theorem wl_nextE {x : Operand} {s : ByteArray} {b p : Nat} (hd : Nat.blt d N.1 = true) (hx : σ.ev x = some (.pointer (some ⟨b, 0, none⟩))) (hb : w.heap[b]? = some (.stringIter s p)) (hp : ¬ p < s.size)
    (h : WL P N ops R rest ((d, .tuple #[.bool false]) :: σ) w) :
    WL P N ops R (⟨some d, .next x true, T, pos, after, none⟩ :: rest) σ w := by
  refine wl_val (w' := w) hd (fun ρ ha => ?_) h
  simp only [execOp, ha x _ hx, Instr.next, getObj, setObj, Sem.run_bind, Sem.run, hb, Result.andThen, hp, if_false]
  simp [goInt, Sem.run]
end
section
variable {P : Program} {σ : Env} {w : World} {dst : Option Nat} {T : TypeId} {pos : String} {after : Array Edge} {g : Option (Nat × Bool)}
end
section
variable {P : Program} {N : NN} {R : Post} {σ : Env} {w : World}
end
def nextR (s : ByteArray) (n : Nat) : Int × Nat :=
  if n < s.size ∧ ¬ ((Utf8.decode s n).1 = 65533 ∧ (Utf8.decode s n).2 = 1) then (((Utf8.decode s n).1 : Nat), (Utf8.decode s n).2) else (-1, 0)
end Go.W
namespace Go.W
set_option linter.unusedSimpArgs false
set_option linter.unusedVariables false
section
variable {P : Program} {N : NN} {ops : Array Oper} {R : Post} {rest : List Oper} {σ : Env} {w w' : World} {d : Nat} {op : Op} {dst : Option Nat} {T : TypeId} {pos : String} {after : Array Edge} {g : Option (Nat × Bool)}
theorem OwnS.cut {e : TypeId} {sz n m c : Nat} {a : Option Addr} {xs : List Value} {ob : Option Nat} (h : OwnS w e sz a n c xs ob) (hm : m ≤ n) : OwnS w e sz a m c (xs.take (m * sz)) ob := by
  have hl := h.length
  have hmn : m * sz ≤ n * sz := Nat.mul_le_mul_right _ hm
  refine ⟨by rw [List.length_take]; omega, ?_⟩
  rcases h.2 with ⟨h1, h2, h3⟩ | ⟨g, cap, cur, hg, hv, hb, hn, hc, hs, ht⟩
  · cases h1; exact .inl ⟨by rw [show m = 0 by omega], by omega, h3⟩
  · cases hv
    exact .inr ⟨g, c, cur, hg, rfl, hb, by omega, hc, hs, by rw [← ht, List.take_take, Nat.min_eq_left hmn]⟩
end
end Go.W
namespace Go.W
open Go.RowKit
set_option linter.unusedSimpArgs false
set_option linter.unusedVariables false
section
variable {P : Program} {σ : Env} {w : World}
end
section
variable {P : Program} {N : NN} {R : Post} {σ : Env} {w : World}
end
section
variable {P : Program} {N : NN} {R : Post} {σ : Env} {w : World} {l n : Nat}
end
section
variable {P : Program} {N : NN} {R : Post} {σ : Env} {w w' : World} {ops : Array Oper} {rest : List Oper} {n d : Nat} {op : Op} {T : TypeId} {pos : String} {after : Array Edge}
end
theorem ex_max {P : Program} {σ : Env} {w : World} {dst : Option Nat} {T : TypeId} {pos : String} {after : Array Edge} {g : Option (Nat × Bool)} {x y : Operand} {ats : Array TypeId} {k k' : IntKind} {m n : Int} (hx : σ.ev x = some (.int k m)) (hy : σ.ev y = some (.int k' n)) :
    Ex P σ ⟨dst, .call ⟨.builtin .max, #[x, y], ats⟩, T, pos, after, g⟩ w (.int k (if m < n then n else m)) w := fun ρ h => by
  simp [execOp, resolve, h x _ hx, h y _ hy, invoke, builtin, run_max_int2]
theorem blk_turn {b : Nat} {cs : Array Value} {t : TypeId} {fz : Nat × Nat} {W W' : World} {row : Option Nat} (hb : W.heap[b]? = some (.cells cs t fz)) (hg : W.grownBy W' row) (hr : ∀ r, row = some r → ∃ o : Obj, W.heap[r]? = some o ∧ o.isCells = false) : W'.heap[b]? = some (.cells cs t fz) := by
  rw [hg.block b (blk_lt hb) (fun e => by obtain ⟨o, ho, hf⟩ := hr b e.symm; rw [hb] at ho; cases ho; simp [Obj.isCells] at hf)]
  exact hb
theorem evo_turn {X : List Nat} {w W W' : World} {row : Option Nat} (h : Evo X w W) (hg : W.grownBy W' row) (hr : ∀ r, row = some r → w.heap.size ≤ r) : Evo X w W' :=
  h.step (Evo.of_grown hg) (fun y hy => .inr (hr y (by simpa using hy)))
end Go.W
namespace Go.W
open Go.RowKit
set_option linter.unusedSimpArgs false
set_option linter.unusedVariables false
abbrev KV := List (ByteArray × Value)
def MapAt (w : World) (b : Nat) (kvs : KV) : Prop := ∃ es : Array MapEntry, w.heap[b]? = some (.map es es.size) ∧ es.toList.map (fun e => (e.key, e.val)) = kvs.map (fun kv => (Value.string kv.1, kv.2)) ∧ ∀ i (h : i < es.size), es[i].born = i
theorem MapAt.evo {X : List Nat} {w w' : World} {b : Nat} {kvs : KV} (h : MapAt w b kvs) (he : Evo X w w') (hx : b ∉ X) : MapAt w' b kvs := by
  obtain ⟨es, h1, h2⟩ := h
  exact ⟨es, he.blk h1 hx, h2⟩
theorem MapAt.evo0 {w w' : World} {b : Nat} {kvs : KV} (h : MapAt w b kvs) (he : Evo [] w w') : MapAt w' b kvs := h.evo he (by simp)
theorem MapAt.lt {w : World} {b : Nat} {kvs : KV} (h : MapAt w b kvs) : b < w.heap.size := by obtain ⟨es, h1, _⟩ := h; exact blk_lt h1
theorem Lt.map {w : World} {b : Nat} {kvs : KV} (h : MapAt w b kvs) : Lt w (some b) := fun g hg => by cases hg; exact h.lt
section
variable {P : Program} {N : NN} {ops : Array Oper} {R : Post} {rest : List Oper} {σ : Env} {w w' : World} {d : Nat} {dst : Option Nat} {T : TypeId} {pos : String} {after : Array Edge} {g : Option (Nat × Bool)}
end
def IterAt (w : World) (r m n : Nat) (seen : List Nat) : Prop := w.heap[r]? = some (.mapIter (some m) n seen.toArray n)
theorem IterAt.evo {X : List Nat} {w w' : World} {r m n : Nat} {seen : List Nat} (h : IterAt w r m n seen) (he : Evo X w w') (hx : r ∉ X) : IterAt w' r m n seen := he.blk h hx
theorem IterAt.lt {w : World} {r m n : Nat} {seen : List Nat} (h : IterAt w r m n seen) : r < w.heap.size := blk_lt h
section
variable {P : Program} {N : NN} {ops : Array Oper} {R : Post} {rest : List Oper} {σ : Env} {w w' : World} {d : Nat} {dst : Option Nat} {T : TypeId} {pos : String} {after : Array Edge} {g : Option (Nat × Bool)}
end
section
variable {P : Program} {N : NN} {R : Post} {σ : Env} {w w' : World} {dst : Option Nat} {T : TypeId} {pos : String} {after : Array Edge} {g : Option (Nat × Bool)}
end
section
variable {P : Program} {σ : Env} {w : World} {dst : Option Nat} {T : TypeId} {pos : String} {after : Array Edge} {g : Option (Nat × Bool)}
end
end Go.W
namespace Go.W
open Go.RowKit
set_option linter.unusedVariables false
set_option linter.unusedSimpArgs false
set_option linter.unusedSectionVars false
section
variable {P : Program} {N : NN} {R : Post} {σ : Env} {w w' : World} {ops : Array Oper} {rest : List Oper} {n d : Nat} {op : Op} {T : TypeId} {pos : String} {after : Array Edge}
end
end Go.W
namespace Go.W
open Go.RowKit
set_option linter.unusedVariables false
set_option linter.unusedSimpArgs false
abbrev pan (v : Value) : List PanicEntry := [{ v := v, recovered := false }]
def RetP (Φ : Value → World → Prop) (Ψ : Value → World → Prop) : Ending → World → Prop
  | .returned v, w => Φ v w
  | .panicked c, w => ∃ v, c = pan v ∧ Ψ v w
  | .outgrown, _ => False
theorem RetP.of {Φ Ψ : Value → World → Prop} {e : Ending} {w : World} (h : Ret Φ e w) : RetP Φ Ψ e w := by obtain ⟨v, rfl, h⟩ := h; exact h
section
variable {P : Program} {N : NN} {R : Post} {σ : Env} {w : World} {ops : Array Oper} {rest : List Oper} {T : TypeId} {pos : String} {after : Array Edge} {d : Nat}
theorem args_eq {σ : Env} {a : Act} {xs : Array Operand} {vs : List Value} (hag : Agrees σ a.eval) (hxs : xs.toList.map σ.ev = vs.map some) : xs.map a.eval = vs.toArray := by
  apply Array.ext'
  rw [Array.toList_map]
  generalize xs.toList = l at *
  clear xs
  revert vs
  induction l with
  | nil => intro vs hxs; cases vs with | nil => rfl | cons _ _ => simp at hxs
  | cons x l ih =>
    intro vs hxs
    cases vs with
    | nil => simp at hxs
    | cons v vs =>
      simp only [List.map_cons, List.cons.injEq] at hxs
      simp only [List.map_cons, hag x v hxs.1]
      exact congrArg _ (ih hxs.2)
theorem wl_callP {dst : Option Nat} {f : FuncId} {xs : Array Operand} {ats : Array TypeId} {vs : List Value} {Φ Ψ : Value → World → Prop} (hgo : Goes P f) (hxs : xs.toList.map σ.ev = vs.map some)
    (hc : Calls P f vs.toArray w (RetP Φ Ψ)) (hd : ∀ k, dst = some k → Nat.blt k N.1 = true) (hp : ∀ v w', Ψ v w' → R (.panic (pan v)) N σ w')
    (h : ∀ v w', Φ v w' → WL P N ops R rest (match dst with | some k => (k, v) :: σ | none => σ) w') :
    WL P N ops R (⟨dst, .call ⟨.value (.func f), xs, ats⟩, T, pos, after, none⟩ :: rest) σ w := fun a ha => wpList_plain rfl fun K hK => by
  have hargs := args_eq ha.agrees hxs
  obtain ⟨fn, hf, hn, hbd⟩ := hgo
  unfold Oper.wp
  have hrun : (execOp a.eval ⟨dst, .call ⟨.value (.func f), xs, ats⟩, T, pos, after, none⟩).run P w = .ok (.enter f vs.toArray) w := by
    have hn' : ¬ fn.name = "runtime.NumGoroutine" := by simpa using hn
    have hb' : ¬ fn.body = none := by intro hh; simp [hh] at hbd
    simp only [execOp, resolve, hargs]
    simp [Act.eval, Deferred.ofValue, invoke, callFunc, hf, hn', hb']
  rw [hrun]
  show Calls P f vs.toArray w _
  refine hc.mono ?_
  intro e w' he
  cases e with
  | returned v =>
    cases dst with
    | none => exact hK _ _ (h v w' he a ha)
    | some k => exact hK _ _ (h v w' he _ (ha.put (of_decide_eq_true (by simpa using hd k rfl)) v))
  | panicked c => obtain ⟨v, rfl, hΨ⟩ := he; exact ⟨N, σ, ha, hp v w' hΨ⟩
  | outgrown => exact he.elim
theorem wl_callP1 {f : FuncId} {xs : Array Operand} {ats : Array TypeId} {vs : List Value} {Φ Ψ : Value → World → Prop} (hgo : Goes P f) (hxs : xs.toList.map σ.ev = vs.map some)
    (hc : Calls P f vs.toArray w (RetP Φ Ψ)) (hd : Nat.blt d N.1 = true) (hp : ∀ v w', Ψ v w' → R (.panic (pan v)) N σ w') (h : ∀ v w', Φ v w' → WL P N ops R rest ((d, v) :: σ) w') :
    WL P N ops R (⟨some d, .call ⟨.value (.func f), xs, ats⟩, T, pos, after, none⟩ :: rest) σ w := wl_callP hgo hxs hc (fun k hk => by cases hk; exact hd) hp h
theorem wl_panic {dst : Option Nat} {x : Operand} {t : TypeId} {v : Value} (hx : σ.ev x = some (.iface t v)) (h : R (.panic (pan (.iface t v))) N σ w) : WL P N ops R (⟨dst, .panic x, T, pos, after, none⟩ :: rest) σ w :=
  fun a ha => wpList_plain rfl fun K hK => by
    unfold Oper.wp
    have hrun : (execOp a.eval ⟨dst, .panic x, T, pos, after, none⟩).run P w = .halt (.panic (.iface t v)) w := by
      simp only [execOp, ha.agrees x _ hx]
      rfl
    rw [hrun]
    exact ⟨N, σ, ha, h⟩
theorem ex_iface {dst : Option Nat} {g : Option (Nat × Bool)} {x : Operand} {t : TypeId} {v : Value} (hx : σ.ev x = some v) (ht : ∀ w, (Instr.makeInterface t v).run P w = .ok (.iface t v) w) : Ex P σ ⟨dst, .makeInterface t x, T, pos, after, g⟩ w (.iface t v) w := fun ρ h => by
  simp [execOp, h x _ hx, ht]
abbrev dfr (f : FuncId) (cap : Array Value) : Deferred := { target := .fn (.func f) cap, args := #[] }
theorem wl_defer {x : Operand} {ats : Array TypeId} {f : FuncId} {cap : Array Value} (hx : σ.ev x = some (.func (.func f) #[] cap)) (h : WL P (N.1, dfr f cap :: N.2) ops R rest σ w) :
    WL P N ops R (⟨none, .defer ⟨.value x, #[], ats⟩, T, pos, after, none⟩ :: rest) σ w := fun a ha => wpList_plain rfl fun K hK => by
  unfold Oper.wp
  have hrun : (execOp a.eval ⟨none, .defer ⟨.value x, #[], ats⟩, T, pos, after, none⟩).run P w = .ok (.defer (dfr f cap)) w := by
    simp only [execOp, resolve, ha.agrees x _ hx]
    simp [Deferred.ofValue]
  rw [hrun]
  exact hK _ _ (h _ ⟨ha.1, by show dfr f cap :: a.defers = _; rw [ha.2.1], ha.2.2⟩)
end
section
variable {P : Program} {σ : Env} {w : World}
theorem bodyp_ret {fn : Func} {Φ Ψ : Value → World → Prop} {N : NN} (h : bodyR P fn (Ret Φ) .ret N σ w) : bodyR P fn (RetP Φ Ψ) .ret N σ w :=
  ⟨h.1, fun a ha => by obtain ⟨v, h1, h2⟩ := h.2 a ha; exact ⟨v, h1, RetP.of h2⟩⟩
theorem body_pan {n : Nat} {fn : Func} {Φ Ψ : Value → World → Prop} {v : Value} (h : Ψ v w) : bodyR P fn (RetP Φ Ψ) (.panic (pan v)) (n, []) σ w := ⟨rfl, v, rfl, h⟩
def bodyRD (P : Program) (fn : Func) (E : Ending → World → Prop) : Post
  | .normal, N, σ, w => ∀ a, Fits N σ a → Leaves P fn a.tmps E N.2 .returning w
  | .ret, N, σ, w => ∀ a, Fits N σ a → Leaves P fn a.tmps E N.2 .returning w
  | .panic chain, N, σ, w => ∀ a, Fits N σ a → Leaves P fn a.tmps E N.2 (.panicking chain) w
  | .outgrown, _, _, w => E .outgrown w
  | .exit _, _, _, _ => False
  | .goto _, _, _, _ => False
theorem calls_of_cwD {f : FuncId} {fn : Func} {c : Code} {args : List Value} {E : Ending → World → Prop} {N : Nat}
    (hf : P.funcs[f]? = some fn) (hb : fn.body = some c) (hN : fn.ntmps = N) (hle' : Nat.ble args.length N = true)
    (h : CW P (N, []) c (bodyRD P fn E) (paramEnv 0 args) w) : Calls P f args.toArray w E := by
  have hle : args.length ≤ N := Nat.le_of_ble_eq_true hle'; refine calls_of_wp_defers hf hb (wp_mono (h _ ⟨?_, rfl, ?_⟩) ?_)
  · simp [hN]; omega
  · intro t v hv
    obtain ⟨_, h2⟩ := paramEnv_get args 0 t v hv; simp only [Nat.sub_zero] at h2; have hlt : t < args.length := (List.getElem?_eq_some_iff.1 h2).1
    have h3 : args[t] = v := by rw [List.getElem?_eq_getElem hlt] at h2; exact Option.some.inj h2
    simp [Array.getElem?_append, hlt, h3]
  · intro e a' w' hq
    cases e with
    | normal => obtain ⟨N', σ', hf', hk⟩ := hq; show Leaves _ _ _ _ _ _ _; rw [hf'.2.1]; exact hk a' hf'
    | ret => obtain ⟨N', σ', hf', hk⟩ := hq; show Leaves _ _ _ _ _ _ _; rw [hf'.2.1]; exact hk a' hf'
    | panic ch => obtain ⟨N', σ', hf', hk⟩ := hq; show Leaves _ _ _ _ _ _ _; rw [hf'.2.1]; exact hk a' hf'
    | outgrown => obtain ⟨_, hk⟩ := hq; exact hk
    | exit i => obtain ⟨_, _, _, hk⟩ := hq; exact hk
    | goto l => obtain ⟨_, _, _, hk⟩ := hq; exact hk
theorem leaves_one {fn : Func} {tmps : Array Value} {E : Ending → World → Prop} {f : FuncId} {g : Func} {cap : Array Value} {u : FrameMode} (hg : P.funcs[f]? = some g) (hn : (g.name == "runtime.NumGoroutine") = false) (hb : g.body.isNone = false) (hu : u ≠ .run)
    (h : CallsD P f cap u w fun e u' w' => match e with
      | .returned _ => Leaves P fn tmps E [] (settle u') w'
      | .panicked chain => Leaves P fn tmps E [] (raised u' chain) w'
      | .outgrown => E .outgrown w') : Leaves P fn tmps E [dfr f cap] u w := by
  refine leaves_cons hu ?_ (h.mono ?_)
  · have hn' : ¬ g.name = "runtime.NumGoroutine" := by simpa using hn
    have hb' : ¬ g.body = none := by intro hh; simp [hh] at hb
    simp [invoke, callFunc, hg, hn', hb']
  · intro e u' w' he
    cases e <;> exact he
end
end Go.W
namespace Go.Proofs.Ytljadkcojnlioaa
open Go.W Go.RowKit
set_option linter.unusedVariables false
set_option linter.unusedSimpArgs false
abbrev iv (n : Int) : Value := .int .i64 n
abbrev sv (s : ByteArray) : Value := .string s
inductive Rx where
  | mk (kind r : Int) (ranges : List (Int × Int)) (min max : Int) (lazy : Bool) (cap : Int) (name : ByteArray) (kids : List Rx)
def Rx.kind : Rx → Int | .mk k _ _ _ _ _ _ _ _ => k
def Rx.r : Rx → Int | .mk _ r _ _ _ _ _ _ _ => r
def Rx.ranges : Rx → List (Int × Int) | .mk _ _ l _ _ _ _ _ _ => l
def Rx.min : Rx → Int | .mk _ _ _ m _ _ _ _ _ => m
def Rx.max : Rx → Int | .mk _ _ _ _ m _ _ _ _ => m
def Rx.lazy : Rx → Bool | .mk _ _ _ _ _ z _ _ _ => z
def Rx.cap : Rx → Int | .mk _ _ _ _ _ _ c _ _ => c
def Rx.name : Rx → ByteArray | .mk _ _ _ _ _ _ _ n _ => n
def Rx.kids : Rx → List Rx | .mk _ _ _ _ _ _ _ _ l => l
def RRg : Rel (Int × Int) := fun _ _ vs g => vs = [.int .i32 g.1, .int .i32 g.2]
theorem rnil0 {α : Type} {sz : Nat} {R : Rel α} {X : List Nat} {w : World} : RSl sz R X w (.slice none 0 0) [] := ⟨none, 0, rfl, by simp, fun k hk => by simp at hk⟩
theorem RRg.pers : RRg.Pers := fun _ _ _ _ _ _ h => h
theorem RRg.fresh : RRg.Fresh := fun _ _ _ _ _ _ h => h
def RRx : Nat → Rel Rx
  | 0 => fun _ _ _ _ => False
  | n + 1 => fun X w vs x => ∃ vr vk, vs = [iv x.kind, .int .i32 x.r, vr, iv x.min, iv x.max, .bool x.lazy, iv x.cap, .string x.name, vk] ∧ RSl 2 RRg X w vr x.ranges ∧ RSl 9 (RRx n) X w vk x.kids ∧
      x.ranges.length ≤ 140737488351232 ∧ x.name.size ≤ 140737488351232 ∧ x.kids.length ≤ 140737488351232
theorem RRx.pers : ∀ n, (RRx n).Pers
  | 0 => fun _ _ _ _ _ _ h => h.elim
  | n + 1 => fun X w w' vs x he ⟨vr, vk, h1, h2, h3, h4⟩ => ⟨vr, vk, h1, RSl.evo RRg.pers he h2, RSl.evo (RRx.pers n) he h3, h4⟩
theorem RRx.fresh : ∀ n, (RRx n).Fresh
  | 0 => fun _ _ _ _ _ _ h => h.elim
  | n + 1 => fun X Y w vs x hy ⟨vr, vk, h1, h2, h3, h4⟩ => ⟨vr, vk, h1, RSl.fresh (by decide) RRg.fresh hy h2, RSl.fresh (by decide) (RRx.fresh n) hy h3, h4⟩
theorem RRx.step {n : Nat} {X Y : List Nat} {w w' : World} {vs : List Value} {x : Rx} (h : RRx n X w vs x) (he : Evo X w w') (hy : ∀ y, y ∈ Y → y ∈ X ∨ w.heap.size ≤ y) (hb : ∀ b, b ∈ X → b < w.heap.size) : RRx n Y w' vs x := by
  have h1 : RRx n (Y ++ X) w vs x := RRx.fresh n X (Y ++ X) w vs x (fun y hy' => by rcases List.mem_append.1 hy' with h | h; exact hy y h; exact .inl h) h
  have h2 := RRx.pers n _ _ _ _ _ (he.mono (fun b hb => by simp [hb])) h1
  exact RRx.fresh n (Y ++ X) Y w' vs x (fun y hy' => .inl (by simp [hy'])) h2
abbrev St := Nat × List ByteArray
def wordN (c : Nat) : Prop := (48 ≤ c ∧ c ≤ 57) ∨ (65 ≤ c ∧ c ≤ 90) ∨ (97 ≤ c ∧ c ≤ 122) ∨ c = 95
instance (c : Nat) : Decidable (wordN c) := by unfold wordN; infer_instance
def NameOk (s : ByteArray) : Prop := ∀ j, j < s.size → wordN (sb s j)
def GroupOk (cap : Int) (nm : ByteArray) (ns : List ByteArray) : Prop := cap = (ns.length : Int) + 1 ∧ cap ≤ 100 ∧ NameOk nm ∧ (nm = ByteArray.mk #[] ∨ nm ∉ ns)
def RangesOk (l : List (Int × Int)) : Prop :=
  (∀ i (h : i < l.length), 0 ≤ l[i].1 ∧ l[i].1 ≤ l[i].2 ∧ l[i].2 ≤ 1114111 ∧ ∀ j (hj : j < l.length), i = j + 1 → l[j].2 + 1 < l[i].1) ∧ ∀ h : l.length = 1, l[0].1 ≠ l[0].2
def Leafy (k : Int) : Prop := ¬ (k = 4 ∨ k = 5 ∨ k = 6 ∨ k = 7)
structure NodeP (x : Rx) : Prop where
  kind1 : 1 ≤ x.kind
  kind2 : x.kind ≤ 13
  zr : x.kind = 2 ∨ x.r = 0
  zg : x.kind = 3 ∨ x.ranges = []
  zm : x.kind = 6 ∨ (x.min = 0 ∧ x.max = 0 ∧ x.lazy = false)
  zc : x.kind = 7 ∨ (x.cap = 0 ∧ x.name = ByteArray.mk #[])
  lit : x.kind = 2 → 0 ≤ x.r ∧ x.r ≤ 1114111
  cls : x.kind = 3 → RangesOk x.ranges
  two : x.kind = 4 ∨ x.kind = 5 → 2 ≤ x.kids.length
  rep : x.kind = 6 → 0 ≤ x.min ∧ x.min ≤ 1000 ∧ (x.max = -1 ∨ (x.min ≤ x.max ∧ x.max ≤ 1000)) ∧ x.kids.length = 1
  grp : x.kind = 7 → x.kids.length = 1
  leaf : Leafy x.kind → x.kids = []
structure NodeF (x : Rx) : Prop where
  kind1 : 1 ≤ x.kind
  kind2 : x.kind ≤ 13
  zr : x.kind = 2 ∨ x.r = 0
  zg : x.kind = 3 ∨ (x.ranges.length : Int) = 0
  zm1 : x.kind = 6 ∨ x.min = 0
  zm2 : x.kind = 6 ∨ x.max = 0
  zl : x.kind = 6 ∨ x.lazy = false
  zc : x.kind = 7 ∨ x.cap = 0
  zn : x.kind = 7 ∨ x.name = ByteArray.mk #[]
  lit1 : x.kind = 2 → 0 ≤ x.r
  lit2 : x.kind = 2 → x.r ≤ 1114111
  cls : x.kind = 3 → RangesOk x.ranges
  two : x.kind = 4 ∨ x.kind = 5 → 2 ≤ (x.kids.length : Int)
  rep1 : x.kind = 6 → 0 ≤ x.min
  rep2 : x.kind = 6 → x.min ≤ 1000
  rep3 : x.kind = 6 → x.max = -1 ∨ (x.min ≤ x.max ∧ x.max ≤ 1000)
  rep4 : x.kind = 6 → (x.kids.length : Int) = 1
  grp : x.kind = 7 → (x.kids.length : Int) = 1
  leaf : x.kind = 4 ∨ x.kind = 5 ∨ x.kind = 6 ∨ x.kind = 7 ∨ (x.kids.length : Int) = 0
theorem nodeP_iff (x : Rx) : NodeP x ↔ NodeF x := by
  constructor
  · intro h
    refine ⟨h.kind1, h.kind2, h.zr, ?_, ?_, ?_, ?_, ?_, ?_, fun k => (h.lit k).1, fun k => (h.lit k).2, h.cls, fun k => by have := h.two k; omega, fun k => (h.rep k).1, fun k => (h.rep k).2.1, fun k => (h.rep k).2.2.1, fun k => by have := (h.rep k).2.2.2; omega, fun k => by have := h.grp k; omega, ?_⟩
    · rcases h.zg with h | h; exact .inl h; right; rw [h]; rfl
    · rcases h.zm with h | h; exact .inl h; exact .inr h.1
    · rcases h.zm with h | h; exact .inl h; exact .inr h.2.1
    · rcases h.zm with h | h; exact .inl h; exact .inr h.2.2
    · rcases h.zc with h | h; exact .inl h; exact .inr h.1
    · rcases h.zc with h | h; exact .inl h; exact .inr h.2
    · by_cases hk : Leafy x.kind
      · have := h.leaf hk; right; right; right; right; rw [this]; rfl
      · unfold Leafy at hk; omega
  · intro h
    refine ⟨h.kind1, h.kind2, h.zr, ?_, ?_, ?_, fun k => ⟨h.lit1 k, h.lit2 k⟩, h.cls, fun k => by have := h.two k; omega, fun k => ⟨h.rep1 k, h.rep2 k, h.rep3 k, by have := h.rep4 k; omega⟩, fun k => by have := h.grp k; omega, fun k => ?_⟩
    · rcases h.zg with h | h; exact .inl h; exact .inr (List.length_eq_zero_iff.1 (by omega))
    · by_cases hk : x.kind = 6
      · exact .inl hk
      · exact .inr ⟨h.zm1.resolve_left hk, h.zm2.resolve_left hk, h.zl.resolve_left hk⟩
    · by_cases hk : x.kind = 7
      · exact .inl hk
      · exact .inr ⟨h.zc.resolve_left hk, h.zn.resolve_left hk⟩
    · have := h.leaf
      unfold Leafy at k
      exact List.length_eq_zero_iff.1 (by omega)
def Brk (a k : Int) : Prop := (k = 5 ∧ a = 5) ∨ (k = 4 ∧ (a = 5 ∨ a = 4 ∨ a = 1)) ∨ (k = 6 ∧ (a = 5 ∨ a = 4 ∨ a = 1 ∨ a = 6))
instance (a k : Int) : Decidable (Brk a k) := by unfold Brk; infer_instance
open Classical in
mutual
noncomputable def Rx.fine : Rx → Int → St → Option St
  | .mk k r rs mn mx lz cp nm ks, b, st =>
    if st.1 + 1 ≤ 8194 ∧ (if k = 7 then b + 1 else b) ≤ 250 ∧ NodeP (.mk k r rs mn mx lz cp nm ks) ∧ (k = 7 → GroupOk cp nm st.2) then
      fineKids ks k (if k = 7 then b + 1 else b) (st.1 + 1, if k = 7 then st.2 ++ [nm] else st.2)
    else none
noncomputable def fineKids : List Rx → Int → Int → St → Option St
  | [], _, _, st => some st
  | x :: xs, k, b, st => match x.fine (b + if Brk x.kind k then 1 else 0) st with
    | none => none
    | some st' => fineKids xs k b st'
end
open Classical in
theorem Rx.fine_eq (x : Rx) (b : Int) (st : St) : x.fine b st = if st.1 + 1 ≤ 8194 ∧ (if x.kind = 7 then b + 1 else b) ≤ 250 ∧ NodeP x ∧ (x.kind = 7 → GroupOk x.cap x.name st.2) then
      fineKids x.kids x.kind (if x.kind = 7 then b + 1 else b) (st.1 + 1, if x.kind = 7 then st.2 ++ [x.name] else st.2) else none := by
  cases x; rw [Rx.fine]; rfl
theorem fineKids_at {l : List Rx} {j : Nat} (hj : j < l.length) (k b : Int) (st : St) : fineKids (l.drop j) k b st = (match l[j].fine (b + if Brk l[j].kind k then 1 else 0) st with | none => none | some st' => fineKids (l.drop (j + 1)) k b st') := by
  rw [List.drop_eq_getElem_cons hj, fineKids]
theorem fineKids_end {l : List Rx} {j : Nat} (hj : ¬ j < l.length) (k b : Int) (st : St) : fineKids (l.drop j) k b st = some st := by
  rw [List.drop_eq_nil_of_le (by omega), fineKids]
theorem fine_yes {x : Rx} {b : Int} {st : St} (h : st.1 + 1 ≤ 8194 ∧ (if x.kind = 7 then b + 1 else b) ≤ 250 ∧ NodeP x ∧ (x.kind = 7 → GroupOk x.cap x.name st.2)) :
    x.fine b st = fineKids x.kids x.kind (if x.kind = 7 then b + 1 else b) (st.1 + 1, if x.kind = 7 then st.2 ++ [x.name] else st.2) := by rw [Rx.fine_eq, if_pos h]
theorem fine_no {x : Rx} {b : Int} {st : St} (h : ¬ (st.1 + 1 ≤ 8194 ∧ (if x.kind = 7 then b + 1 else b) ≤ 250 ∧ NodeP x ∧ (x.kind = 7 → GroupOk x.cap x.name st.2))) : x.fine b st = none := by rw [Rx.fine_eq, if_neg h]
def Rx.Ok (x : Rx) : Prop := ∃ st, x.fine 0 (0, []) = some st
structure JAt (w : World) (T : TypeId) (jb : Nat) (st : St) (a : Option Addr) (c : Nat) (ob : Option Nat) : Prop where
  blk : w.heap[jb]? = some (.cells #[iv (st.1 : Nat), .slice a st.2.length c] T (0, 0))
  own : OwnS w 9 1 a st.2.length c (st.2.map sv) ob
  ne : ∀ g, ob = some g → g ≠ jb
theorem ap_ob {w : World} {o p p' : Option Nat} (h : Apart o p) (hl : Lt w o) (hp : p' = p ∨ ∃ g, p' = some g ∧ w.heap.size ≤ g) : Apart o p' := fun g h1 h2 => by
  rcases hp with rfl | ⟨g', h3, h4⟩
  · exact h g h1 h2
  · rw [h2] at h3; cases h3; have := hl g h1; omega
end Go.Proofs.Ytljadkcojnlioaa
namespace Go.Proofs.Ytljadkcojnlioaa
open Go.Proofs
open Go.W Go.RowKit
attribute [local irreducible] Decidable.decide
set_option linter.unusedSimpArgs false
set_option linter.unusedVariables false
theorem Try.build34 : Build Try.prog 34 #[(0, 1)] #[.int .i64 0] := ⟨_, .agg #[.int .i64 0], Try.underlying34, by kernel_rfl, rfl, fun w => by kernel_rfl⟩
abbrev flt (e : Int) : Value := .iface 34 (.agg #[iv e])
theorem fail_ok {w : World} (e : Int) : Calls Try.prog 10 #[iv e] w (RetP (fun _ _ => False) (fun v w' => v = flt e ∧ Evo [] w w')) := by
  refine calls_of_cw (N := 5) Try.func10 rfl rfl rfl ?_; refine cw_region ?_; refine wl_m ?_; refine wl_val rfl (ex_build (vs := [(0, _)]) Try.build34 rfl (cells := [_]) rfl) ?_; refine wl_val rfl (ex_iface rfl (fun w => by kernel_rfl)) ?_; refine wl_panic rfl ?_; exact body_pan ⟨rfl, (Evo.refl [] w)⟩
end Go.Proofs.Ytljadkcojnlioaa
namespace Go.Proofs.Ytljadkcojnlioaa
open Go.W Go.RowKit
set_option linter.unusedVariables false
set_option linter.unusedSimpArgs false
inductive Good : Rx → Prop
  | mk {x : Rx} : NodeP x → (x.kind = 7 → 1 ≤ x.cap ∧ x.cap ≤ 100) → (∀ k, k ∈ x.kids → Good k) → Good x
structure In where
  op : Int
  out : Int
  alt : Int
  arg : Int
  rs : List (Int × Int)
def In.sp (lazy : Bool) (a b : Nat) : In := if lazy then ⟨3, b, a, 0, []⟩ else ⟨3, a, b, 0, []⟩
def Rep (B : Nat → Nat → Prop) : Nat → Nat → Nat → Prop
  | 0, a, b => a = b
  | r + 1, a, b => ∃ m, B a m ∧ Rep B r m b
def Opt (l : List In) (z : Bool) (B : Nat → Nat → Prop) (e : Nat) : Nat → Nat → Prop
  | 0, a => a = e
  | r + 1, a => ∃ m, l[a]? = some (In.sp z (a + 1) e) ∧ B (a + 1) m ∧ Opt l z B e r m
def leafIn (k : Int) (a : Nat) : In := ⟨if k = 13 then 9 else k - 3, (a : Int) + 1, 0, if k = 13 then 1 else 0, []⟩
mutual
def Blk (l : List In) : Rx → Nat → Nat → Prop
  | .mk k r rs mn mx lz cp nm ks, a, b =>
    (k = 1 → b = a) ∧
    (k = 2 → b = a + 1 ∧ l[a]? = some ⟨2, (a : Int) + 1, 0, 0, [(r, r)]⟩) ∧
    (k = 3 → b = a + 1 ∧ l[a]? = some (if rs = [] then ⟨11, 0, 0, 0, []⟩ else ⟨2, (a : Int) + 1, 0, 0, rs⟩)) ∧
    (k = 4 → Blks l ks a b) ∧
    (k = 5 → BlkA l ks a b) ∧
    (k = 6 → ∃ m, Rep (Blks l ks) mn.toNat a m ∧ (mx = -1 → ∃ m', l[m]? = some (In.sp lz (m + 1) b) ∧ Blks l ks (m + 1) m' ∧ l[m']? = some ⟨10, (m : Int), 0, 0, []⟩ ∧ b = m' + 1) ∧
      (mx ≠ -1 → Opt l lz (Blks l ks) b (mx - mn).toNat m)) ∧
    (k = 7 → ∃ m, l[a]? = some ⟨4, (a : Int) + 1, 0, 2 * cp, []⟩ ∧ Blks l ks (a + 1) m ∧ l[m]? = some ⟨4, (m : Int) + 1, 0, 2 * cp + 1, []⟩ ∧ b = m + 1) ∧
    (8 ≤ k → b = a + 1 ∧ l[a]? = some (leafIn k a))
def Blks (l : List In) : List Rx → Nat → Nat → Prop
  | [], a, b => a = b
  | x :: xs, a, b => ∃ m, Blk l x a m ∧ Blks l xs m b
def BlkA (l : List In) : List Rx → Nat → Nat → Prop
  | [], _, _ => False
  | x :: xs, a, b => (xs = [] → Blk l x a b) ∧ (xs ≠ [] → ∃ m, l[a]? = some (In.sp false (a + 1) (m + 1)) ∧ Blk l x (a + 1) m ∧ l[m]? = some ⟨10, (b : Int), 0, 0, []⟩ ∧ BlkA l xs (m + 1) b)
end
def InR (c : Int) (l : List (Int × Int)) : Prop := ∃ g, g ∈ l ∧ g.1 ≤ c ∧ c ≤ g.2
def wordI (c : Int) : Prop := (48 ≤ c ∧ c ≤ 57) ∨ (65 ≤ c ∧ c ≤ 90) ∨ (97 ≤ c ∧ c ≤ 122) ∨ c = 95
def Bef (rs : List Int) (i : Nat) : Prop := 0 < i ∧ ∃ c, rs[i - 1]? = some c ∧ wordI c
def Aft (rs : List Int) (i : Nat) : Prop := ∃ c, rs[i]? = some c ∧ wordI c
def Plc (rs : List Int) (k : Int) (i : Nat) : Prop :=
  (k = 8 ∧ i = 0) ∨ (k = 9 ∧ i = rs.length) ∨ (k = 10 ∧ (i = 0 ∨ rs[i - 1]? = some 10)) ∨ (k = 11 ∧ (i = rs.length ∨ rs[i]? = some 10)) ∨ (k = 12 ∧ ¬ (Bef rs i ↔ Aft rs i)) ∨ (k = 13 ∧ (Bef rs i ↔ Aft rs i))
def It (R : Nat → Nat → Prop) : Nat → Nat → Nat → Prop
  | 0, i, j => i = j
  | c + 1, i, j => ∃ k, R i k ∧ It R c k j
mutual
def Mt (rs : List Int) : Rx → Nat → Nat → Prop
  | .mk k r g mn mx lz cp nm ks, i, j =>
    (k = 1 ∧ i = j) ∨ (k = 2 ∧ j = i + 1 ∧ rs[i]? = some r) ∨ (k = 3 ∧ j = i + 1 ∧ ∃ c, rs[i]? = some c ∧ InR c g) ∨ (k = 4 ∧ Mts rs ks i j) ∨ (k = 5 ∧ MtA rs ks i j) ∨
    (k = 6 ∧ ∃ c, mn.toNat ≤ c ∧ (mx = -1 ∨ c ≤ mx.toNat) ∧ It (Mts rs ks) c i j) ∨ (k = 7 ∧ Mts rs ks i j) ∨ (8 ≤ k ∧ i = j ∧ Plc rs k i)
def Mts (rs : List Int) : List Rx → Nat → Nat → Prop
  | [], i, j => i = j
  | x :: xs, i, j => ∃ k, Mt rs x i k ∧ Mts rs xs k j
def MtA (rs : List Int) : List Rx → Nat → Nat → Prop
  | [], _, _ => False
  | x :: xs, i, j => Mt rs x i j ∨ MtA rs xs i j
end
theorem It.add {R : Nat → Nat → Prop} {a b : Nat} : ∀ {i j}, It R (a + b) i j ↔ ∃ k, It R a i k ∧ It R b k j := by
  induction a with
  | zero => intro i j; simp only [Nat.zero_add, It]; constructor; exact fun h => ⟨i, rfl, h⟩; rintro ⟨k, rfl, h⟩; exact h
  | succ a ih =>
    intro i j
    rw [show a + 1 + b = (a + b) + 1 from by omega]
    simp only [It]
    constructor
    · rintro ⟨k, h1, h2⟩
      obtain ⟨m, h3, h4⟩ := ih.1 h2
      exact ⟨m, ⟨k, h1, h3⟩, h4⟩
    · rintro ⟨m, ⟨k, h1, h3⟩, h4⟩
      exact ⟨k, h1, ih.2 ⟨m, h3, h4⟩⟩
def GoesOn (rs : List Int) (c : In) (i : Nat) : Prop := c.op = 3 ∨ c.op = 4 ∨ c.op = 10 ∨ (5 ≤ c.op ∧ c.op ≤ 8 ∧ Plc rs (c.op + 3) i) ∨ (c.op = 9 ∧ Plc rs (if c.arg = 0 then 12 else 13) i)
def Eps (l : List In) (rs : List Int) (i p q : Nat) : Prop := ∃ c, l[p]? = some c ∧ GoesOn rs c i ∧ ((q : Int) = c.out ∨ (c.op = 3 ∧ (q : Int) = c.alt))
def Eat (l : List In) (rs : List Int) (i p q : Nat) : Prop := ∃ c, l[p]? = some c ∧ c.op = 2 ∧ (q : Int) = c.out ∧ ∃ r, rs[i]? = some r ∧ InR r c.rs
def Step (l : List In) (rs : List Int) (p i q j : Nat) : Prop := (j = i ∧ Eps l rs i p q) ∨ (j = i + 1 ∧ Eat l rs i p q)
inductive Way (l : List In) (rs : List Int) (a b q j : Nat) : Nat → Nat → Prop
  | nil : Way l rs a b q j q j
  | cons {p i p' i' : Nat} : a ≤ p → p < b → Step l rs p i p' i' → Way l rs a b q j p' i' → Way l rs a b q j p i
variable {l : List In} {rs : List Int}
theorem Way.mono {a b c d q j p i : Nat} (h : Way l rs c d q j p i) (h1 : a ≤ c) (h2 : d ≤ b) : Way l rs a b q j p i := by
  induction h with
  | nil => exact .nil
  | cons ha hb hs _ ih => exact .cons (by omega) (by omega) hs ih
theorem Way.trans {a b q j m k p i : Nat} (h : Way l rs a b m k p i) (h1 : Way l rs a b q j m k) : Way l rs a b q j p i := by
  induction h with
  | nil => exact h1
  | cons ha hb hs _ ih => exact .cons ha hb hs ih
theorem Way.done {a b q j i : Nat} (h : Way l rs a b q j b i) : q = b ∧ i = j := by
  cases h with
  | nil => exact ⟨rfl, rfl⟩
  | cons ha hb => omega
def Closed (l : List In) (rs : List Int) (a b : Nat) : Prop := ∀ p i q j, a ≤ p → p < b → Step l rs p i q j → a ≤ q ∧ q ≤ b
theorem Way.cut {a b c d j p i : Nat} (h : Way l rs a b b j p i) (hc : Closed l rs c d) (h1 : a ≤ c) (h2 : d ≤ b) (h3 : c ≤ p) (h4 : p ≤ d) : ∃ k, Way l rs c d d k p i ∧ Way l rs a b b j d k := by
  induction h with
  | nil => obtain rfl : b = d := by omega
           exact ⟨_, .nil, .nil⟩
  | cons ha hb hs hw ih =>
    rename_i p i p' i'
    by_cases e : p = d
    · subst e; exact ⟨i, .nil, .cons ha hb hs hw⟩
    · obtain ⟨h5, h6⟩ := hc _ _ _ _ h3 (by omega) hs
      obtain ⟨k, h7, h8⟩ := ih h5 h6
      exact ⟨k, .cons h3 (by omega) hs h7, h8⟩
structure Leads (l : List In) (rs : List Int) (a b : Nat) (R : Nat → Nat → Prop) : Prop where
  le : a ≤ b
  cl : Closed l rs a b
  way : ∀ i j, Way l rs a b b j a i ↔ R i j
theorem Leads.congr {a b : Nat} {R S : Nat → Nat → Prop} (h : Leads l rs a b R) (e : ∀ i j, R i j ↔ S i j) : Leads l rs a b S := ⟨h.le, h.cl, fun i j => (h.way i j).trans (e i j)⟩
theorem leads_nil (a : Nat) : Leads l rs a a (fun i j => i = j) := ⟨Nat.le_refl _, fun p i q j h1 h2 => by omega, fun i j => ⟨fun h => h.done.2, fun h => h ▸ .nil⟩⟩
theorem step_get {a i q j : Nat} {c : In} (h : l[a]? = some c) (hs : Step l rs a i q j) : (j = i ∧ GoesOn rs c i ∧ ((q : Int) = c.out ∨ (c.op = 3 ∧ (q : Int) = c.alt))) ∨ (j = i + 1 ∧ c.op = 2 ∧ (q : Int) = c.out ∧ ∃ r, rs[i]? = some r ∧ InR r c.rs) := by
  rcases hs with ⟨rfl, c', hc, h1, h2⟩ | ⟨rfl, c', hc, h1, h2⟩
  · rw [h] at hc; cases hc; exact .inl ⟨rfl, h1, h2⟩
  · rw [h] at hc; cases hc; exact .inr ⟨rfl, h1, h2⟩
theorem leads_one {a : Nat} {c : In} (h : l[a]? = some c) (h1 : c.op = 3 → False) (h2 : c.out = (a : Int) + 1 ∨ c.op = 11) :
    Leads l rs a (a + 1) (fun i j => (j = i ∧ GoesOn rs c i) ∨ (j = i + 1 ∧ c.op = 2 ∧ ∃ r, rs[i]? = some r ∧ InR r c.rs)) := by
  have h11 : c.op = 11 → ∀ i, ¬ GoesOn rs c i := fun h i hg => by unfold GoesOn at hg; omega
  have hout : ∀ {q i}, GoesOn rs c i ∨ c.op = 2 → (q : Int) = c.out → q = (a : Int) + 1 := fun hg e => by
    rcases h2 with h2 | h2
    · omega
    · rcases hg with hg | hg
      · exact (h11 h2 _ hg).elim
      · omega
  refine ⟨by omega, fun p i q j hp hp' hs => ?_, fun i j => ⟨fun hw => ?_, fun hr => ?_⟩⟩
  · obtain rfl : p = a := by omega
    rcases step_get h hs with ⟨rfl, hg, h3 | ⟨h3, -⟩⟩ | ⟨rfl, h3, h4, -⟩
    · have := hout (.inl hg) h3; omega
    · exact (h1 h3).elim
    · have := hout (i := i) (.inr h3) h4; omega
  · cases hw with
    | cons ha hb hs hw =>
      rcases step_get h hs with ⟨rfl, hg, h3 | ⟨h3, -⟩⟩ | ⟨rfl, h3, h4, h5⟩
      · rename_i p' _
        obtain rfl : p' = a + 1 := by have := hout (.inl hg) h3; omega
        obtain ⟨-, rfl⟩ := hw.done
        exact .inl ⟨rfl, hg⟩
      · exact (h1 h3).elim
      · rename_i p'
        obtain rfl : p' = a + 1 := by have := hout (i := i) (.inr h3) h4; omega
        obtain ⟨-, rfl⟩ := hw.done
        exact .inr ⟨rfl, h3, h5⟩
  · rcases hr with ⟨rfl, hg⟩ | ⟨rfl, h3, h5⟩
    · refine .cons (Nat.le_refl _) (by omega) (.inl ⟨rfl, c, h, hg, .inl ?_⟩) .nil
      rcases h2 with h2 | h2
      · omega
      · exact (h11 h2 _ hg).elim
    · refine .cons (Nat.le_refl _) (by omega) (.inr ⟨rfl, c, h, h3, ?_, h5⟩) .nil
      omega
theorem leads_seq {a m b : Nat} {R S : Nat → Nat → Prop} (h1 : Leads l rs a m R) (h2 : Leads l rs m b S) : Leads l rs a b (fun i j => ∃ k, R i k ∧ S k j) := by
  have e1 := h1.le
  have e2 := h2.le
  refine ⟨by omega, fun p i q j hp hp' hs => ?_, fun i j => ⟨fun hw => ?_, ?_⟩⟩
  · by_cases e : p < m
    · have := h1.cl p i q j hp e hs; omega
    · have := h2.cl p i q j (by omega) hp' hs; omega
  · obtain ⟨k, w1, w2⟩ := hw.cut h1.cl (by omega) (by omega) (by omega) (by omega)
    obtain ⟨k', w3, w4⟩ := w2.cut h2.cl (by omega) (by omega) (by omega) (by omega)
    obtain ⟨-, rfl⟩ := w4.done
    exact ⟨k, (h1.way _ _).1 w1, (h2.way _ _).1 w3⟩
  · rintro ⟨k, r1, r2⟩
    exact (((h1.way _ _).2 r1).mono (Nat.le_refl _) (by omega)).trans (((h2.way _ _).2 r2).mono (by omega) (Nat.le_refl _))
theorem leads_rep {B : Nat → Nat → Prop} {R : Nat → Nat → Prop} (hB : ∀ a b, B a b → Leads l rs a b R) : ∀ {n a b}, Rep B n a b → Leads l rs a b (It R n)
  | 0, a, b, h => by cases h; exact leads_nil a
  | n + 1, a, b, ⟨m, h1, h2⟩ => leads_seq (hB _ _ h1) (leads_rep hB h2)
theorem sp_get {z : Bool} {a x y i q j : Nat} (h : l[a]? = some (In.sp z x y)) (hs : Step l rs a i q j) : j = i ∧ (q = x ∨ q = y) := by
  rcases step_get h hs with ⟨rfl, hg, h3⟩ | ⟨rfl, h3, -⟩
  · refine ⟨rfl, ?_⟩
    unfold In.sp at h3
    split at h3 <;> simp only at h3 <;> omega
  · unfold In.sp at h3
    split at h3 <;> simp only at h3 <;> omega
theorem sp_in {z : Bool} {a x y i : Nat} (h : l[a]? = some (In.sp z x y)) : Step l rs a i x i := by
  refine .inl ⟨rfl, _, h, ?_, ?_⟩
  · unfold GoesOn In.sp; split <;> simp
  · unfold In.sp; split <;> simp
theorem sp_out {z : Bool} {a x y i : Nat} (h : l[a]? = some (In.sp z x y)) : Step l rs a i y i := by
  refine .inl ⟨rfl, _, h, ?_, ?_⟩
  · unfold GoesOn In.sp; split <;> simp
  · unfold In.sp; split <;> simp
theorem jp_get {a x i q j : Nat} (h : l[a]? = some ⟨10, (x : Int), 0, 0, []⟩) (hs : Step l rs a i q j) : j = i ∧ q = x := by
  rcases step_get h hs with ⟨rfl, hg, h3 | ⟨h3, -⟩⟩ | ⟨rfl, h3, -⟩
  · exact ⟨rfl, by simp only at h3; omega⟩
  · simp only at h3; omega
  · simp only at h3; omega
theorem jp_in {a x i : Nat} (h : l[a]? = some ⟨10, (x : Int), 0, 0, []⟩) : Step l rs a i x i := .inl ⟨rfl, _, h, .inr (.inr (.inl rfl)), .inl rfl⟩
theorem leads_opt {z : Bool} {B : Nat → Nat → Prop} {R : Nat → Nat → Prop} {e : Nat} (hB : ∀ a b, B a b → Leads l rs a b R) : ∀ {r a}, Opt l z B e r a → Leads l rs a e (fun i j => ∃ c, c ≤ r ∧ It R c i j)
  | 0, a, h => by
    cases h
    refine (leads_nil _).congr fun i j => ⟨fun h => ⟨0, Nat.le_refl _, h⟩, ?_⟩
    rintro ⟨c, hc, h⟩
    obtain rfl : c = 0 := by omega
    exact h
  | r + 1, a, ⟨m, h1, h2, h3⟩ => by
    have f1 := hB _ _ h2
    have f2 := leads_opt hB h3
    have e1 := f1.le
    have e2 := f2.le
    refine ⟨by omega, fun p i q j hp hp' hs => ?_, fun i j => ⟨fun hw => ?_, ?_⟩⟩
    · by_cases e : p = a
      · subst e; have := sp_get h1 hs; omega
      · by_cases e : p < m
        · have := f1.cl p i q j (by omega) e hs; omega
        · have := f2.cl p i q j (by omega) hp' hs; omega
    · cases hw with
      | nil => omega
      | cons ha hb hs hw =>
        obtain ⟨rfl, h4⟩ := sp_get h1 hs
        rcases h4 with rfl | rfl
        · obtain ⟨k, w1, w2⟩ := hw.cut f1.cl (by omega) (by omega) (by omega) (by omega)
          obtain ⟨k', w3, w4⟩ := w2.cut f2.cl (by omega) (by omega) (by omega) (by omega)
          obtain ⟨-, rfl⟩ := w4.done
          obtain ⟨c, hc, hi⟩ := (f2.way _ _).1 w3
          exact ⟨c + 1, by omega, k, (f1.way _ _).1 w1, hi⟩
        · obtain ⟨-, rfl⟩ := hw.done
          exact ⟨0, by omega, rfl⟩
    · rintro ⟨c, hc, hi⟩
      cases c with
      | zero => cases hi; exact .cons (Nat.le_refl _) (by omega) (sp_out h1) .nil
      | succ c =>
        obtain ⟨k, r1, r2⟩ := hi
        exact .cons (Nat.le_refl _) (by omega) (sp_in h1) ((((f1.way _ _).2 r1).mono (by omega) (by omega)).trans (((f2.way _ _).2 ⟨c, by omega, r2⟩).mono (by omega) (Nat.le_refl _)))
theorem leads_loop {z : Bool} {R : Nat → Nat → Prop} {a m : Nat} (h1 : l[a]? = some (In.sp z (a + 1) (m + 1))) (f1 : Leads l rs (a + 1) m R) (h2 : l[m]? = some ⟨10, (a : Int), 0, 0, []⟩) : Leads l rs a (m + 1) (fun i j => ∃ c, It R c i j) := by
  have e1 := f1.le
  have key : ∀ {j p i}, Way l rs a (m + 1) (m + 1) j p i → (p = a → ∃ c, It R c i j) ∧ (a + 1 ≤ p → p ≤ m → ∃ k c, Way l rs (a + 1) m m k p i ∧ It R c k j) := by
    intro j p i hw
    induction hw with
    | nil => exact ⟨fun h => by omega, fun _ h => by omega⟩
    | cons ha hb hs hw ih =>
      rename_i p i p' i'
      refine ⟨fun e => ?_, fun h3 h4 => ?_⟩
      · subst e
        obtain ⟨rfl, h4⟩ := sp_get h1 hs
        rcases h4 with rfl | rfl
        · obtain ⟨k, c, w1, w2⟩ := ih.2 (by omega) (by omega)
          exact ⟨c + 1, k, (f1.way _ _).1 w1, w2⟩
        · obtain ⟨-, rfl⟩ := hw.done
          exact ⟨0, rfl⟩
      · by_cases e : p = m
        · subst e
          obtain ⟨rfl, rfl⟩ := jp_get h2 hs
          obtain ⟨c, hc⟩ := ih.1 rfl
          exact ⟨_, c, .nil, hc⟩
        · have h5 := f1.cl p i p' i' h3 (by omega) hs
          obtain ⟨k, c, w1, w2⟩ := ih.2 h5.1 h5.2
          exact ⟨k, c, .cons h3 (by omega) hs w1, w2⟩
  refine ⟨by omega, fun p i q j hp hp' hs => ?_, fun i j => ⟨fun hw => (key hw).1 rfl, ?_⟩⟩
  · by_cases e : p = a
    · subst e; have := sp_get h1 hs; omega
    · by_cases e : p = m
      · subst e; have := jp_get h2 hs; omega
      · have := f1.cl p i q j (by omega) (by omega) hs; omega
  · rintro ⟨c, hc⟩
    induction c generalizing i with
    | zero => cases hc; exact .cons (Nat.le_refl _) (by omega) (sp_out h1) .nil
    | succ c ih =>
      obtain ⟨k, r1, r2⟩ := hc
      exact .cons (Nat.le_refl _) (by omega) (sp_in h1) ((((f1.way _ _).2 r1).mono (by omega) (by omega)).trans (.cons (by omega) (by omega) (jp_in h2) (ih k r2)))
theorem leads_alt {R S : Nat → Nat → Prop} {a m b : Nat} (h1 : l[a]? = some (In.sp false (a + 1) (m + 1))) (f1 : Leads l rs (a + 1) m R) (h2 : l[m]? = some ⟨10, (b : Int), 0, 0, []⟩) (f2 : Leads l rs (m + 1) b S) :
    Leads l rs a b (fun i j => R i j ∨ S i j) := by
  have e1 := f1.le
  have e2 := f2.le
  refine ⟨by omega, fun p i q j hp hp' hs => ?_, fun i j => ⟨fun hw => ?_, ?_⟩⟩
  · by_cases e : p = a
    · subst e; have := sp_get h1 hs; omega
    · by_cases e : p = m
      · subst e; have := jp_get h2 hs; omega
      · by_cases e : p < m
        · have := f1.cl p i q j (by omega) (by omega) hs; omega
        · have := f2.cl p i q j (by omega) (by omega) hs; omega
  · cases hw with
    | nil => omega
    | cons ha hb hs hw =>
      obtain ⟨rfl, h4⟩ := sp_get h1 hs
      rcases h4 with rfl | rfl
      · obtain ⟨k, w1, w2⟩ := hw.cut f1.cl (by omega) (by omega) (by omega) (by omega)
        cases w2 with
        | nil => omega
        | cons ha hb hs hw =>
          obtain ⟨rfl, rfl⟩ := jp_get h2 hs
          obtain ⟨-, rfl⟩ := hw.done
          exact .inl ((f1.way _ _).1 w1)
      · obtain ⟨k, w1, w2⟩ := hw.cut f2.cl (by omega) (by omega) (by omega) (by omega)
        obtain ⟨-, rfl⟩ := w2.done
        exact .inr ((f2.way _ _).1 w1)
  · rintro (h | h)
    · exact .cons (Nat.le_refl _) (by omega) (sp_in h1) ((((f1.way _ _).2 h).mono (by omega) (by omega)).trans (.cons (by omega) (by omega) (jp_in h2) .nil))
    · exact .cons (Nat.le_refl _) (by omega) (sp_out h1) (((f2.way _ _).2 h).mono (by omega) (by omega))
theorem blks_leads : ∀ {ks : List Rx}, (∀ k, k ∈ ks → ∀ a b, Blk l k a b → Leads l rs a b (Mt rs k)) → ∀ {a b}, Blks l ks a b → Leads l rs a b (Mts rs ks)
  | [], _, a, b, h => by
    rw [Blks] at h; subst h
    exact (leads_nil a).congr fun i j => by rw [Mts]
  | x :: xs, hk, a, b, h => by
    rw [Blks] at h
    obtain ⟨m, h1, h2⟩ := h
    exact (leads_seq (hk x (by simp) _ _ h1) (blks_leads (fun k hk' => hk k (by simp [hk'])) h2)).congr fun i j => by rw [Mts]
theorem blka_leads : ∀ {ks : List Rx}, (∀ k, k ∈ ks → ∀ a b, Blk l k a b → Leads l rs a b (Mt rs k)) → ∀ {a b}, BlkA l ks a b → Leads l rs a b (MtA rs ks)
  | [], _, a, b, h => by rw [BlkA] at h; exact h.elim
  | x :: xs, hk, a, b, h => by
    rw [BlkA] at h
    obtain ⟨h1, h2⟩ := h
    by_cases e : xs = []
    · subst e
      exact (hk x (by simp) _ _ (h1 rfl)).congr fun i j => by rw [MtA, MtA]; simp
    · obtain ⟨m, h3, h4, h5, h6⟩ := h2 e
      exact (leads_alt h3 (hk x (by simp) _ _ h4) h5 (blka_leads (fun k hk' => hk k (by simp [hk'])) h6)).congr fun i j => by rw [MtA]
theorem num1 {mn mx : Int} (h1 : 0 ≤ mn) (h2 : mx = -1 ∨ mn ≤ mx ∧ mx ≤ 1000) (e : ¬ mx = -1) : mn.toNat + (mx - mn).toNat = mx.toNat := by omega
theorem num2 {a b c d : Nat} (h : a + b = d) (hc : c ≤ b) : a + c ≤ d := by omega
theorem num3 {a b c d : Nat} (h : a + b = d) (h7 : a ≤ c) (h9 : c ≤ d) : c - a ≤ b := by omega
theorem num4 {k : Int} {a : Nat} (h : ¬ k = 6) : (leafIn k a).op = 3 → False := by unfold leafIn; simp only; split <;> omega
theorem num5 {k : Int} {P Q : Prop} (k2 : k ≤ 13) (e : ¬ k = 13) (e9 : ¬ k = 12) (k1 : 1 ≤ k) (e1 : ¬ k = 1) (e2 : ¬ k = 2) (e3 : ¬ k = 3) (e4 : ¬ k = 4) (e5 : ¬ k = 5) (e6 : ¬ k = 6) (e7 : ¬ k = 7) :
    (k - 3 = 3 ∨ k - 3 = 4 ∨ k - 3 = 10 ∨ (5 ≤ k - 3 ∧ k - 3 ≤ 8 ∧ P) ∨ (k - 3 = 9 ∧ Q)) ↔ P := by
  constructor
  · rintro (h | h | h | ⟨-, -, h⟩ | ⟨h, -⟩)
    · omega
    · omega
    · omega
    · exact h
    · omega
  · exact fun h => .inr (.inr (.inr (.inl ⟨by omega, by omega, h⟩)))
theorem num6 (k : Int) : k - 3 + 3 = k := by omega
theorem num7 {k : Int} (k1 : 1 ≤ k) (e1 : ¬ k = 1) (e2 : ¬ k = 2) (e3 : ¬ k = 3) (e4 : ¬ k = 4) (e5 : ¬ k = 5) (e6 : ¬ k = 6) (e7 : ¬ k = 7) : 8 ≤ k := by omega
theorem num8 {k : Int} (k1 : 1 ≤ k) (e1 : ¬ k = 1) (e2 : ¬ k = 2) (e3 : ¬ k = 3) (e4 : ¬ k = 4) (e5 : ¬ k = 5) (e6 : ¬ k = 6) (e7 : ¬ k = 7) : k - 3 = 2 → False := by omega
theorem blk_leads {x : Rx} (hg : Good x) : ∀ a b, Blk l x a b → Leads l rs a b (Mt rs x) := by
  induction hg with
  | @mk x hn hc _ ih =>
    intro a b hb
    have k1 := hn.kind1
    have k2 := hn.kind2
    have kr := hn.rep
    obtain ⟨k, r, g, mn, mx, lz, cp, nm, ks⟩ := x
    simp only [Rx.kind, Rx.kids, Rx.min, Rx.max] at *
    rw [Blk] at hb
    obtain ⟨b1, b2, b3, b4, b5, b6, b7, b8⟩ := hb
    by_cases e1 : k = 1
    · rw [b1 e1]
      exact (leads_nil a).congr fun i j => by rw [Mt]; subst e1; simp
    by_cases e2 : k = 2
    · obtain ⟨rfl, h⟩ := b2 e2
      refine (leads_one h (by simp) (.inl rfl)).congr fun i j => ?_
      rw [Mt]; subst e2
      simp [GoesOn, InR]
      intro _
      constructor
      · rintro ⟨r', h1, h2, h3⟩; obtain rfl : r = r' := by omega
        exact h1
      · exact fun h => ⟨r, h, Int.le_refl _, Int.le_refl _⟩
    by_cases e3 : k = 3
    · obtain ⟨rfl, h⟩ := b3 e3
      subst e3
      split at h
      · rename_i e; subst e
        refine (leads_one h (by simp) (.inr rfl)).congr fun i j => ?_
        rw [Mt]; simp [GoesOn, InR]
      · refine (leads_one h (by simp) (.inl rfl)).congr fun i j => ?_
        rw [Mt]; simp [GoesOn]
    by_cases e4 : k = 4
    · exact (blks_leads ih (b4 e4)).congr fun i j => by rw [Mt]; subst e4; simp
    by_cases e5 : k = 5
    · exact (blka_leads ih (b5 e5)).congr fun i j => by rw [Mt]; subst e5; simp
    by_cases e6 : k = 6
    · obtain ⟨m, h1, h2, h3⟩ := b6 e6
      obtain ⟨q1, q2, q3, q4⟩ := kr e6
      have f1 := leads_rep (fun a b h => blks_leads ih h) h1
      by_cases e : mx = -1
      · obtain ⟨m', h4, h5, h6, rfl⟩ := h2 e
        refine (leads_seq f1 (leads_loop h4 (blks_leads ih h5) h6)).congr fun i j => ?_
        rw [Mt]; subst e6
        simp only [Int.reduceEq, false_and, false_or, true_and, Int.reduceLE, or_false]
        constructor
        · rintro ⟨k, r1, c, r2⟩
          exact ⟨mn.toNat + c, by omega, .inl e, It.add.2 ⟨k, r1, r2⟩⟩
        · rintro ⟨c, h7, -, h8⟩
          obtain ⟨k, r1, r2⟩ := It.add.1 (show It _ (mn.toNat + (c - mn.toNat)) i j by rw [show mn.toNat + (c - mn.toNat) = c from by omega]; exact h8)
          exact ⟨k, r1, _, r2⟩
      · refine (leads_seq f1 (leads_opt (fun a b h => blks_leads ih h) (h3 e))).congr fun i j => ?_
        rw [Mt]; subst e6
        have q5 : mn.toNat + (mx - mn).toNat = mx.toNat := num1 q1 q3 e
        simp only [Int.reduceEq, false_and, false_or, true_and, Int.reduceLE, or_false]
        constructor
        · rintro ⟨k, r1, c, hc, r2⟩
          exact ⟨mn.toNat + c, by omega, .inr (num2 q5 hc), It.add.2 ⟨k, r1, r2⟩⟩
        · rintro ⟨c, h7, h9, h8⟩
          replace h9 : c ≤ mx.toNat := h9.resolve_left e
          obtain ⟨k, r1, r2⟩ := It.add.1 (show It _ (mn.toNat + (c - mn.toNat)) i j by rw [show mn.toNat + (c - mn.toNat) = c from by omega]; exact h8)
          exact ⟨k, r1, _, num3 q5 h7 h9, r2⟩
    by_cases e7 : k = 7
    · obtain ⟨m, h1, h2, h3, rfl⟩ := b7 e7
      refine (leads_seq (leads_one h1 (by simp) (.inl rfl)) (leads_seq (blks_leads ih h2) (leads_one h3 (by simp) (.inl rfl)))).congr fun i j => ?_
      rw [Mt]; subst e7
      simp [GoesOn]
    · obtain ⟨rfl, h⟩ := b8 (by omega)
      refine (leads_one h (num4 e6) (.inl rfl)).congr fun i j => ?_
      rw [Mt]
      simp only [e1, e2, e3, e4, e5, e6, e7, false_and, false_or]
      unfold leafIn GoesOn
      by_cases e : k = 13
      · subst e; simp; intro _; exact eq_comm
      · simp only [e, if_false]
        by_cases e9 : k = 12
        · subst e9; simp; intro _; exact eq_comm
        · rw [num6 k]
          try simp only [e, e9, if_false, false_and, or_false]
          constructor
          · rintro (⟨rfl, h⟩ | ⟨-, h, -⟩)
            · exact ⟨num7 k1 e1 e2 e3 e4 e5 e6 e7, rfl, (num5 k2 e e9 k1 e1 e2 e3 e4 e5 e6 e7).1 h⟩
            · exact (num8 k1 e1 e2 e3 e4 e5 e6 e7 h).elim
          · rintro ⟨h1, rfl, h2⟩
            exact .inl ⟨rfl, (num5 k2 e e9 k1 e1 e2 e3 e4 e5 e6 e7).2 h2⟩
end Go.Proofs.Ytljadkcojnlioaa
namespace Go.Proofs.Ytljadkcojnlioaa
open Go.W Go.RowKit
set_option linter.unusedVariables false
set_option linter.unusedSimpArgs false
def CanL : Int → List (Int × Int) → Prop
  | _, [] => True
  | b, g :: l => b ≤ g.1 ∧ g.1 ≤ g.2 ∧ g.2 ≤ 1114111 ∧ CanL (g.2 + 2) l
abbrev CanR (l : List (Int × Int)) : Prop := CanL 0 l
theorem inR_cons {c : Int} {g : Int × Int} {l : List (Int × Int)} : InR c (g :: l) ↔ (g.1 ≤ c ∧ c ≤ g.2) ∨ InR c l := by
  constructor
  · rintro ⟨x, hx, h⟩
    cases hx with
    | head => exact .inl h
    | tail _ hx => exact .inr ⟨x, hx, h⟩
  · rintro (h | ⟨x, hx, h⟩)
    · exact ⟨g, List.mem_cons_self .., h⟩
    · exact ⟨x, List.mem_cons_of_mem _ hx, h⟩
theorem inR_none (c : Int) : ¬ InR c [] := by rintro ⟨g, h, -⟩; cases h
theorem inR_app {c : Int} {l m : List (Int × Int)} : InR c (l ++ m) ↔ InR c l ∨ InR c m := by
  constructor
  · rintro ⟨x, hx, h⟩
    rcases List.mem_append.1 hx with hx | hx
    · exact .inl ⟨x, hx, h⟩
    · exact .inr ⟨x, hx, h⟩
  · rintro (⟨x, hx, h⟩ | ⟨x, hx, h⟩)
    · exact ⟨x, List.mem_append_left _ hx, h⟩
    · exact ⟨x, List.mem_append_right _ hx, h⟩
theorem inR_one {c : Int} {g : Int × Int} : InR c [g] ↔ g.1 ≤ c ∧ c ≤ g.2 := by
  rw [inR_cons]
  exact ⟨fun h => h.elim id (fun h => (inR_none c h).elim), .inl⟩
theorem inR_perm {c : Int} {l m : List (Int × Int)} (h : l.Perm m) : InR c l ↔ InR c m := by
  constructor
  · rintro ⟨x, hx, h2⟩; exact ⟨x, h.mem_iff.1 hx, h2⟩
  · rintro ⟨x, hx, h2⟩; exact ⟨x, h.mem_iff.2 hx, h2⟩
theorem canL_ge : ∀ {l : List (Int × Int)} {b c : Int}, CanL b l → InR c l → b ≤ c ∧ c ≤ 1114111
  | [], b, c, _, h => (inR_none c h).elim
  | g :: l, b, c, hc, h => by
    rw [CanL] at hc
    rcases inR_cons.1 h with h | h
    · omega
    · have := canL_ge hc.2.2.2 h; omega
theorem canL_le : ∀ {l : List (Int × Int)} {a b : Int}, CanL b l → a ≤ b → CanL a l
  | [], a, b, _, _ => trivial
  | g :: l, a, b, h, hab => by
    rw [CanL] at h ⊢
    exact ⟨by omega, h.2⟩
theorem canL_uniq : ∀ {l m : List (Int × Int)} {b : Int}, CanL b l → CanL b m → (∀ c, InR c l ↔ InR c m) → l = m
  | [], [], b, _, _, _ => rfl
  | [], h :: m, b, hl, hm, he => by
    rw [CanL] at hm
    exact (inR_none h.1 ((he h.1).2 (inR_cons.2 (.inl ⟨Int.le_refl _, hm.2.1⟩)))).elim
  | g :: l, [], b, hl, hm, he => by
    rw [CanL] at hl
    exact (inR_none g.1 ((he g.1).1 (inR_cons.2 (.inl ⟨Int.le_refl _, hl.2.1⟩)))).elim
  | g :: l, h :: m, b, hl, hm, he => by
    rw [CanL] at hl hm
    have h1 := (he g.1).1 (inR_cons.2 (.inl ⟨Int.le_refl _, hl.2.1⟩))
    have h2 := (he h.1).2 (inR_cons.2 (.inl ⟨Int.le_refl _, hm.2.1⟩))
    have e1 : g.1 = h.1 := by
      rcases inR_cons.1 h1 with h1 | h1 <;> rcases inR_cons.1 h2 with h2 | h2
      · omega
      · have := canL_ge hl.2.2.2 h2; omega
      · have := canL_ge hm.2.2.2 h1; omega
      · have := canL_ge hl.2.2.2 h2; have := canL_ge hm.2.2.2 h1; omega
    have e2 : g.2 = h.2 := by
      rcases Int.lt_trichotomy g.2 h.2 with c | c | c
      · have h3 := (he (g.2 + 1)).2 (inR_cons.2 (.inl (by omega)))
        rcases inR_cons.1 h3 with h3 | h3
        · omega
        · have := canL_ge hl.2.2.2 h3; omega
      · exact c
      · have h3 := (he (h.2 + 1)).1 (inR_cons.2 (.inl (by omega)))
        rcases inR_cons.1 h3 with h3 | h3
        · omega
        · have := canL_ge hm.2.2.2 h3; omega
    have e : g = h := Prod.ext e1 e2
    subst e
    have : l = m := canL_uniq hl.2.2.2 hm.2.2.2 fun c => by
      constructor
      · intro hc
        have h3 := canL_ge hl.2.2.2 hc
        rcases inR_cons.1 ((he c).1 (inR_cons.2 (.inr hc))) with h4 | h4
        · omega
        · exact h4
      · intro hc
        have h3 := canL_ge hm.2.2.2 hc
        rcases inR_cons.1 ((he c).2 (inR_cons.2 (.inr hc))) with h4 | h4
        · omega
        · exact h4
    rw [this]
theorem canL_snoc : ∀ {l : List (Int × Int)} {b : Int} {x : Int × Int}, CanL b l → b ≤ x.1 → x.1 ≤ x.2 → x.2 ≤ 1114111 → (∀ g, g ∈ l → g.2 + 1 < x.1) → CanL b (l ++ [x])
  | [], b, x, _, h1, h2, h3, _ => by show CanL b [x]; rw [CanL]; exact ⟨h1, h2, h3, trivial⟩
  | g :: l, b, x, h, h1, h2, h3, h4 => by
    rw [CanL] at h
    show CanL b (g :: (l ++ [x]))
    rw [CanL]
    have := h4 g (List.mem_cons_self ..)
    exact ⟨h.1, h.2.1, h.2.2.1, canL_snoc h.2.2.2 (by omega) h2 h3 (fun y hy => h4 y (List.mem_cons_of_mem _ hy))⟩
theorem canL_init : ∀ {l : List (Int × Int)} {b : Int} {x : Int × Int}, CanL b (l ++ [x]) → CanL b l ∧ b ≤ x.1 ∧ x.1 ≤ x.2 ∧ x.2 ≤ 1114111 ∧ ∀ g, g ∈ l → g.2 + 1 < x.1
  | [], b, x, h => by
    have h' : CanL b [x] := h
    rw [CanL] at h'
    exact ⟨trivial, h'.1, h'.2.1, h'.2.2.1, fun g hg => by cases hg⟩
  | g :: l, b, x, h => by
    have h' : CanL b (g :: (l ++ [x])) := h
    rw [CanL] at h'
    obtain ⟨h1, h2, h3, h4, h5⟩ := canL_init h'.2.2.2
    refine ⟨by rw [CanL]; exact ⟨h'.1, h'.2.1, h'.2.2.1, h1⟩, by omega, h3, h4, fun y hy => ?_⟩
    cases hy with
    | head => omega
    | tail _ hy => exact h5 y hy
theorem can_more {out : List (Int × Int)} {g x : Int × Int} (h : CanR (out ++ [g])) (h1 : g.1 ≤ x.1) (h2 : x.1 ≤ x.2) (h3 : x.2 ≤ 1114111) :
    (x.1 ≤ g.2 + 1 → CanR (out ++ [(g.1, max g.2 x.2)]) ∧ ∀ c, InR c (out ++ [(g.1, max g.2 x.2)]) ↔ InR c (out ++ [g]) ∨ (x.1 ≤ c ∧ c ≤ x.2)) ∧
    (¬ x.1 ≤ g.2 + 1 → CanR (out ++ [g] ++ [x]) ∧ ∀ c, InR c (out ++ [g] ++ [x]) ↔ InR c (out ++ [g]) ∨ (x.1 ≤ c ∧ c ≤ x.2)) := by
  obtain ⟨i1, i2, i3, i4, i5⟩ := canL_init h
  refine ⟨fun hx => ⟨canL_snoc i1 i2 (by show g.1 ≤ max g.2 x.2; omega) (by show max g.2 x.2 ≤ _; omega) i5, fun c => ?_⟩, fun hx => ⟨canL_snoc h (by omega) h2 h3 (fun y hy => ?_), fun c => ?_⟩⟩
  · rw [inR_app, inR_app, inR_one, inR_one]
    show _ ∨ (g.1 ≤ c ∧ c ≤ max g.2 x.2) ↔ _
    constructor
    · rintro (h | h)
      · exact .inl (.inl h)
      · by_cases hc : c ≤ g.2
        · exact .inl (.inr ⟨h.1, hc⟩)
        · exact .inr (by omega)
    · rintro ((h | h) | h)
      · exact .inl h
      · exact .inr (by omega)
      · exact .inr (by omega)
  · rcases List.mem_append.1 hy with hy | hy
    · have := i5 y hy; omega
    · rw [List.mem_singleton.1 hy]; omega
  · rw [inR_app, inR_one]
noncomputable def canon (S : Int → Prop) : List (Int × Int) := open Classical in if h : ∃ l, CanR l ∧ ∀ c, InR c l ↔ S c then Classical.choose h else []
theorem canon_of {S : Int → Prop} {l : List (Int × Int)} (h : CanR l) (h2 : ∀ c, InR c l ↔ S c) : canon S = l := by
  have hx : ∃ l, CanR l ∧ ∀ c, InR c l ↔ S c := ⟨l, h, h2⟩
  unfold canon
  rw [dif_pos hx]
  have h3 := Classical.choose_spec hx
  exact canL_uniq h3.1 h fun c => (h3.2 c).trans (h2 c).symm
theorem canR_one {a b : Int} (h0 : 0 ≤ a) (h1 : a ≤ b) (h2 : b ≤ 1114111) : CanR [(a, b)] := by
  show CanL 0 [(a, b)]
  rw [CanL]; exact ⟨h0, h1, h2, trivial⟩
def gaps : Int → List (Int × Int) → List (Int × Int)
  | b, [] => if b ≤ 1114111 then [(b, 1114111)] else []
  | b, g :: l => (if b < g.1 then [(b, g.1 - 1)] else []) ++ gaps (g.2 + 1) l
theorem gaps_ok : ∀ {l : List (Int × Int)} {b d : Int}, 0 ≤ b → d ≤ b → CanL b l → CanL d (gaps b l) ∧ ∀ c, InR c (gaps b l) ↔ b ≤ c ∧ c ≤ 1114111 ∧ ¬ InR c l
  | [], b, d, h0, hd, _ => by
    rw [gaps]
    by_cases h : b ≤ 1114111
    · rw [if_pos h]
      refine ⟨by rw [CanL]; exact ⟨hd, h, Int.le_refl _, trivial⟩, fun c => ?_⟩
      rw [inR_one]
      exact ⟨fun h => ⟨h.1, h.2, inR_none c⟩, fun h => ⟨h.1, h.2.1⟩⟩
    · rw [if_neg h]
      exact ⟨trivial, fun c => ⟨fun h => (inR_none c h).elim, fun h => by omega⟩⟩
  | g :: l, b, d, h0, hd, hc => by
    rw [CanL] at hc
    rw [gaps]
    by_cases h : b < g.1
    · rw [if_pos h]
      obtain ⟨i1, i2⟩ := gaps_ok (b := g.2 + 1) (d := g.1 + 1) (by omega) (by omega) (canL_le hc.2.2.2 (by omega))
      refine ⟨?_, fun c => ?_⟩
      · show CanL d ((b, g.1 - 1) :: gaps (g.2 + 1) l)
        rw [CanL]; exact ⟨hd, by show b ≤ g.1 - 1; omega, by show g.1 - 1 ≤ _; omega, by show CanL (g.1 - 1 + 2) _; rw [show g.1 - 1 + 2 = g.1 + 1 by omega]; exact i1⟩
      · rw [inR_app, inR_one, i2, inR_cons]
        show (b ≤ c ∧ c ≤ g.1 - 1) ∨ _ ↔ _
        constructor
        · rintro (h3 | h3)
          · exact ⟨h3.1, by omega, fun h4 => by rcases h4 with h4 | h4; omega; (have := canL_ge hc.2.2.2 h4; omega)⟩
          · exact ⟨by omega, h3.2.1, fun h4 => by rcases h4 with h4 | h4; omega; exact h3.2.2 h4⟩
        · rintro ⟨h3, h4, h5⟩
          by_cases h6 : c ≤ g.1 - 1
          · exact .inl ⟨h3, h6⟩
          · refine .inr ⟨?_, h4, fun h7 => h5 (.inr h7)⟩
            by_cases h8 : c ≤ g.2
            · exact (h5 (.inl ⟨by omega, h8⟩)).elim
            · omega
    · rw [if_neg h, List.nil_append]
      obtain ⟨i1, i2⟩ := gaps_ok (b := g.2 + 1) (d := d) (by omega) (by omega) (canL_le hc.2.2.2 (by omega))
      refine ⟨i1, fun c => ?_⟩
      rw [i2, inR_cons]
      constructor
      · rintro ⟨h3, h4, h5⟩
        exact ⟨by omega, h4, fun h6 => by rcases h6 with h6 | h6; omega; exact h5 h6⟩
      · rintro ⟨h3, h4, h5⟩
        refine ⟨?_, h4, fun h6 => h5 (.inr h6)⟩
        by_cases h8 : c ≤ g.2
        · exact (h5 (.inl ⟨by omega, h8⟩)).elim
        · omega
end Go.Proofs.Ytljadkcojnlioaa
namespace Go.Proofs.Ytljadkcojnlioaa
open Go.W Go.RowKit
set_option linter.unusedVariables false
set_option linter.unusedSimpArgs false
mutual
theorem fine_good : ∀ (x : Rx) (b : Int) (st st' : St), x.fine b st = some st' → Good x
  | .mk k r rs mn mx lz cp nm ks, b, st, st', h => by
    by_cases hc : st.1 + 1 ≤ 8194 ∧ (if (Rx.mk k r rs mn mx lz cp nm ks).kind = 7 then b + 1 else b) ≤ 250 ∧ NodeP (.mk k r rs mn mx lz cp nm ks) ∧ ((Rx.mk k r rs mn mx lz cp nm ks).kind = 7 → GroupOk (Rx.mk k r rs mn mx lz cp nm ks).cap (Rx.mk k r rs mn mx lz cp nm ks).name st.2)
    · rw [fine_yes hc] at h
      refine ⟨hc.2.2.1, fun h7 => ?_, fineKids_good ks _ _ _ _ h⟩
      obtain ⟨h1, h2, -⟩ := hc.2.2.2 h7
      omega
    · rw [fine_no hc] at h; cases h
theorem fineKids_good : ∀ (l : List Rx) (k b : Int) (st st' : St), fineKids l k b st = some st' → ∀ x, x ∈ l → Good x
  | [], _, _, _, _, _, x, hx => by cases hx
  | y :: ys, k, b, st, st', h, x, hx => by
    rw [fineKids] at h
    cases hy : y.fine (b + if Brk y.kind k then 1 else 0) st with
    | none => rw [hy] at h; cases h
    | some s1 =>
      rw [hy] at h
      rcases List.mem_cons.1 hx with e | hx
      · rw [e]; exact fine_good y _ _ _ hy
      · exact fineKids_good ys _ _ _ _ h x hx
end
theorem Rx.Ok.good {x : Rx} (h : x.Ok) : Good x := by obtain ⟨st, h⟩ := h; exact fine_good _ _ _ _ h
end Go.Proofs.Ytljadkcojnlioaa
namespace Go.Proofs.Ytljadkcojnlioaa
open Go.W Go.RowKit
set_option linter.unusedVariables false
set_option linter.unusedSimpArgs false
abbrev Iv := In × Value
def Iv.cells (e : Iv) : List Value := [iv e.1.op, iv e.1.out, iv e.1.alt, iv e.1.arg, e.2]
def Has (l : List In) (a : Nat) (k : List In) : Prop := ∀ i (h : i < k.length), l[a + i]? = some k[i]
theorem Has.left {l : List In} {a : Nat} {k k' : List In} (h : Has l a (k ++ k')) : Has l a k := fun i hi => by
  rw [h i (by rw [List.length_append]; omega), List.getElem_append_left hi]
theorem Has.right {l : List In} {a : Nat} {k k' : List In} (h : Has l a (k ++ k')) : Has l (a + k.length) k' := fun i hi => by
  rw [Nat.add_assoc, h (k.length + i) (by rw [List.length_append]; omega), List.getElem_append_right (by omega)]
  simp
theorem Has.one {l : List In} {a : Nat} {c : In} (h : Has l a [c]) : l[a]? = some c := h 0 (by simp)
def Codes (x : Rx) (a : Nat) (k : List In) : Prop := ∀ l, Has l a k → Blk l x a (a + k.length)
def Pat (l : List In) (a : Nat) (k : List In) (js : List Nat) (f : Nat → In → In) : Prop := ∀ i (h : i < k.length), l[a + i]? = some (if a + i ∈ js then f (a + i) k[i] else k[i])
theorem Pat.left {l : List In} {a : Nat} {k k' : List In} {js js' : List Nat} {f : Nat → In → In} (h : Pat l a (k ++ k') (js ++ js') f) (hj : ∀ p, p ∈ js' → a + k.length ≤ p) : Pat l a k js f := fun i hi => by
  rw [h i (by rw [List.length_append]; omega), List.getElem_append_left hi]
  have : a + i ∉ js' := fun hm => by have := hj _ hm; omega
  simp [List.mem_append, this]
theorem Pat.right {l : List In} {a : Nat} {k k' : List In} {js js' : List Nat} {f : Nat → In → In} (h : Pat l a (k ++ k') (js ++ js') f) (hj : ∀ p, p ∈ js → p < a + k.length) : Pat l (a + k.length) k' js' f := fun i hi => by
  rw [Nat.add_assoc, h (k.length + i) (by rw [List.length_append]; omega), List.getElem_append_right (by omega)]
  have : a + (k.length + i) ∉ js := fun hm => by have := hj _ hm; omega
  simp [List.mem_append, this]
theorem Pat.has {l : List In} {a : Nat} {k : List In} {f : Nat → In → In} (h : Pat l a k [] f) : Has l a k := fun i hi => by rw [h i hi]; simp
def outTo (e : Nat) : Nat → In → In := fun _ c => ⟨c.op, e, c.alt, c.arg, c.rs⟩
structure AltPre (ks : List Rx) (a : Nat) (k : List In) (js : List Nat) : Prop where
  at' : ∀ p, p ∈ js → a ≤ p ∧ p < a + k.length
  blk : ∀ l e, Pat l a k js (outTo e) → ∀ rest, rest ≠ [] → BlkA l rest (a + k.length) e → BlkA l (ks ++ rest) a e
theorem AltPre.nil (a : Nat) : AltPre [] a [] [] := ⟨fun p h => (by cases h), fun l e _ rest _ h => h⟩
theorem AltPre.done {ks : List Rx} {a : Nat} {k kx : List In} {js : List Nat} {x : Rx} (h : AltPre ks a k js) (hx : Codes x (a + k.length) kx) {l : List In} (hp : Pat l a (k ++ kx) js (outTo (a + k.length + kx.length))) : BlkA l (ks ++ [x]) a (a + k.length + kx.length) := by
  have hp' : Pat l a (k ++ kx) (js ++ []) (outTo (a + k.length + kx.length)) := by rw [List.append_nil]; exact hp
  refine h.blk l _ (hp'.left (fun p hp => by cases hp)) [x] (by simp) ?_
  rw [BlkA]
  exact ⟨fun _ => hx l (hp'.right (fun p hp => (h.at' p hp).2)).has, fun h => (h rfl).elim⟩
def turnTo (z : Bool) (e : Nat) : Nat → In → In := fun p c => ⟨c.op, if z then (e : Int) else (p : Int) + 1, if z then (p : Int) + 1 else (e : Int), c.arg, c.rs⟩
def RepC (ks : List Rx) (j a : Nat) (k : List In) : Prop := ∀ l, Has l a k → Rep (Blks l ks) j a (a + k.length)
theorem RepC.nil (ks : List Rx) (a : Nat) : RepC ks 0 a [] := fun l _ => rfl
structure OptPre (z : Bool) (x : Rx) (j a : Nat) (k : List In) (js : List Nat) : Prop where
  at' : ∀ p, p ∈ js → a ≤ p ∧ p < a + k.length
  blk : ∀ l e, Pat l a k js (turnTo z e) → ∀ r, Opt l z (Blks l [x]) e r (a + k.length) → Opt l z (Blks l [x]) e (j + r) a
theorem OptPre.nil (z : Bool) (x : Rx) (a : Nat) : OptPre z x 0 a [] [] := ⟨fun p h => (by cases h), fun l e _ r h => by rw [Nat.zero_add]; exact h⟩
def Iv.outTo (e : Nat) : Nat → Iv → Iv := fun p x => (Go.Proofs.Ytljadkcojnlioaa.outTo e p x.1, x.2)
def Iv.turnTo (z : Bool) (e : Nat) : Nat → Iv → Iv := fun p x => (Go.Proofs.Ytljadkcojnlioaa.turnTo z e p x.1, x.2)
end Go.Proofs.Ytljadkcojnlioaa
namespace Go.Proofs.Ytljadkcojnlioaa
open Go.W Go.Lib
def IsR (n : Int) : Prop := 0 ≤ n ∧ n ≤ 1114111 ∧ (n < 55296 ∨ 57343 < n)
instance (n : Int) : Decidable (IsR n) := by unfold IsR; infer_instance
def formN (m : Nat) : List Nat :=
  if m < 128 then [m] else if m < 2048 then [192 + m / 64, 128 + m % 64] else if m < 65536 then [224 + m / 4096, 128 + m / 64 % 64, 128 + m % 64]
  else [240 + m / 262144, 128 + m / 4096 % 64, 128 + m / 64 % 64, 128 + m % 64]
def formB (n : Int) : List Nat := if IsR n then formN n.toNat else []
theorem formB_lt (n : Int) : ∀ b, b ∈ formB n → b < 256 := by
  unfold formB
  split
  · rename_i h
    unfold IsR at h
    unfold formN
    repeat' split
    all_goals (intro b hb; simp at hb; omega)
  · intro b hb; cases hb
theorem formB_len (n : Int) : (formB n).length ≤ 4 := by
  unfold formB formN
  repeat' split
  all_goals simp
def guessB (s : ByteArray) (a w : Nat) : Int :=
  if w = 1 then (sb s a : Int) else if w = 2 then ((sb s a : Int) - 192) * 64 + sb s (a + 1) - 128
  else if w = 3 then (((sb s a : Int) - 224) * 64 + sb s (a + 1) - 128) * 64 + sb s (a + 2) - 128
  else ((((sb s a : Int) - 240) * 64 + sb s (a + 1) - 128) * 64 + sb s (a + 2) - 128) * 64 + sb s (a + 3) - 128
def bytesAt (s : ByteArray) (a w : Nat) : List Nat := (List.range w).map fun k => sb s (a + k)
theorem bytesAt_lt (s : ByteArray) (a w : Nat) : ∀ b, b ∈ bytesAt s a w → b < 256 := by
  intro b hb
  simp only [bytesAt, List.mem_map] at hb
  obtain ⟨k, _, rfl⟩ := hb
  exact sb_lt _ _
theorem extract_bytes (s : ByteArray) (a w : Nat) (h : a + w ≤ s.size) : s.extract a (a + w) = bstr (bytesAt s a w) := by
  apply ByteArray.ext
  apply Array.ext
  · have e1 : (s.extract a (a + w)).data.size = w := by have := s.size_extract (b := a) (e := a + w); rw [ByteArray.size] at this; omega
    rw [e1]; simp [bstr, bytesAt]
  · intro i h1 h2
    simp only [bstr, bytesAt, List.map_map, List.getElem_toArray, List.getElem_map, List.getElem_range, Function.comp_def, ByteArray.data_extract, Array.getElem_extract]
    have h3 : a + i < s.size := by simp [bstr, bytesAt] at h2; omega
    apply UInt8.toNat_inj.1
    have := sb_lt s (a + i)
    rw [UInt8.toNat_ofNat_of_lt' (by simpa using this), sb_get s _ h3]
    rfl
def Hit (s : ByteArray) (a w : Nat) : Prop := formB (guessB s a w) = bytesAt s a w
theorem hit_len {s : ByteArray} {a w : Nat} (h : Hit s a w) : (formB (guessB s a w)).length = w := by rw [h]; simp [bytesAt]
theorem hit_eq {s : ByteArray} {a w : Nat} (h : a + w ≤ s.size) : Hit s a w ↔ s.extract a (a + w) = bstr (formB (guessB s a w)) := by
  rw [extract_bytes s a w h, bstr_inj (bytesAt_lt s a w) (formB_lt _)]
  exact ⟨fun h => h.symm, fun h => h.symm⟩
section
variable {b0 b1 b2 b3 : Nat}
theorem form1 (h0 : b0 < 256) : formB (b0 : Int) = [b0] ↔ b0 < 128 := by
  unfold formB formN
  constructor
  · intro h
    repeat' split at h
    all_goals simp at h
    all_goals omega
  · intro h
    rw [if_pos (by unfold IsR; omega), if_pos (by omega)]; simp
theorem form2 (h0 : b0 < 256) (h1 : b1 < 256) : formB (((b0 : Int) - 192) * 64 + b1 - 128) = [b0, b1] ↔ (b0 / 32 = 6 ∧ b1 / 64 = 2 ∧ 128 ≤ b0 % 32 * 64 + b1 % 64) := by
  unfold formB formN
  constructor
  · intro h
    repeat' split at h
    all_goals simp at h
    all_goals unfold IsR at *
    all_goals omega
  · intro h
    rw [if_pos (by unfold IsR; omega), if_neg (by omega), if_pos (by omega)]; simp; omega
theorem form3 (h0 : b0 < 256) (h1 : b1 < 256) (h2 : b2 < 256) : formB ((((b0 : Int) - 224) * 64 + b1 - 128) * 64 + b2 - 128) = [b0, b1, b2] ↔
    (b0 / 16 = 14 ∧ b1 / 64 = 2 ∧ b2 / 64 = 2 ∧ 2048 ≤ b0 % 16 * 4096 + b1 % 64 * 64 + b2 % 64 ∧ (b0 % 16 * 4096 + b1 % 64 * 64 + b2 % 64 < 55296 ∨ 57343 < b0 % 16 * 4096 + b1 % 64 * 64 + b2 % 64)) := by
  unfold formB formN
  constructor
  · intro h
    repeat' split at h
    all_goals simp at h
    all_goals unfold IsR at *
    all_goals omega
  · intro h
    rw [if_pos (by unfold IsR; omega), if_neg (by omega), if_neg (by omega), if_pos (by omega)]; simp; omega
theorem form4 (h0 : b0 < 256) (h1 : b1 < 256) (h2 : b2 < 256) (h3 : b3 < 256) : formB (((((b0 : Int) - 240) * 64 + b1 - 128) * 64 + b2 - 128) * 64 + b3 - 128) = [b0, b1, b2, b3] ↔
    (b0 / 8 = 30 ∧ b1 / 64 = 2 ∧ b2 / 64 = 2 ∧ b3 / 64 = 2 ∧ 65536 ≤ b0 % 8 * 262144 + b1 % 64 * 4096 + b2 % 64 * 64 + b3 % 64 ∧ b0 % 8 * 262144 + b1 % 64 * 4096 + b2 % 64 * 64 + b3 % 64 ≤ 1114111) := by
  unfold formB formN
  constructor
  · intro h
    repeat' split at h
    all_goals simp at h
    all_goals unfold IsR at *
    all_goals omega
  · intro h
    rw [if_pos (by unfold IsR; omega), if_neg (by omega), if_neg (by omega), if_neg (by omega)]; simp; omega
end
theorem hit1 (s : ByteArray) (a : Nat) : Hit s a 1 ↔ sb s a < 128 := by
  have := form1 (sb_lt s a)
  simpa [Hit, guessB, bytesAt] using this
theorem hit2 (s : ByteArray) (a : Nat) : Hit s a 2 ↔ (sb s a / 32 = 6 ∧ sb s (a + 1) / 64 = 2 ∧ 128 ≤ sb s a % 32 * 64 + sb s (a + 1) % 64) := by
  have := form2 (sb_lt s a) (sb_lt s (a + 1))
  simpa [Hit, guessB, bytesAt, List.range_succ] using this
theorem hit3 (s : ByteArray) (a : Nat) : Hit s a 3 ↔ (sb s a / 16 = 14 ∧ sb s (a + 1) / 64 = 2 ∧ sb s (a + 2) / 64 = 2 ∧ 2048 ≤ sb s a % 16 * 4096 + sb s (a + 1) % 64 * 64 + sb s (a + 2) % 64 ∧ (sb s a % 16 * 4096 + sb s (a + 1) % 64 * 64 + sb s (a + 2) % 64 < 55296 ∨ 57343 < sb s a % 16 * 4096 + sb s (a + 1) % 64 * 64 + sb s (a + 2) % 64)) := by
  have := form3 (sb_lt s a) (sb_lt s (a + 1)) (sb_lt s (a + 2))
  simpa [Hit, guessB, bytesAt, List.range_succ] using this
theorem hit4 (s : ByteArray) (a : Nat) : Hit s a 4 ↔ (sb s a / 8 = 30 ∧ sb s (a + 1) / 64 = 2 ∧ sb s (a + 2) / 64 = 2 ∧ sb s (a + 3) / 64 = 2 ∧ 65536 ≤ sb s a % 8 * 262144 + sb s (a + 1) % 64 * 4096 + sb s (a + 2) % 64 * 64 + sb s (a + 3) % 64 ∧ sb s a % 8 * 262144 + sb s (a + 1) % 64 * 4096 + sb s (a + 2) % 64 * 64 + sb s (a + 3) % 64 ≤ 1114111) := by
  have := form4 (sb_lt s a) (sb_lt s (a + 1)) (sb_lt s (a + 2)) (sb_lt s (a + 3))
  simpa [Hit, guessB, bytesAt, List.range_succ] using this
theorem decode_sb (s : ByteArray) (i : Nat) : Utf8.decode s i = decodeN (s.size - i) (sb s i) (sb s (i + 1)) (sb s (i + 2)) (sb s (i + 3)) := decode_at s i
theorem decode_cases (s : ByteArray) (a : Nat) (ha : a < s.size) :
    (∃ w, 1 ≤ w ∧ w ≤ 4 ∧ a + w ≤ s.size ∧ Hit s a w ∧ Utf8.decode s a = ((guessB s a w).toNat, w) ∧ 0 ≤ guessB s a w ∧ (guessB s a w ≤ 1114111) ∧ ∀ w', Hit s a w' → 1 ≤ w' → w' ≤ 4 → w' = w) ∨
    ((∀ w, 1 ≤ w → w ≤ 4 → a + w ≤ s.size → ¬ Hit s a w) ∧ Utf8.decode s a = (65533, 1)) := by
  have h0 := sb_lt s a
  have h1 := sb_lt s (a + 1)
  have h2 := sb_lt s (a + 2)
  have h3 := sb_lt s (a + 3)
  have k1 := hit1 s a
  have k2 := hit2 s a
  have k3 := hit3 s a
  have k4 := hit4 s a
  have all : ∀ {p : Nat → Prop}, p 1 → p 2 → p 3 → p 4 → ∀ w, 1 ≤ w → w ≤ 4 → p w := by
    intro p p1 p2 p3 p4 w hw hw'
    have : w = 1 ∨ w = 2 ∨ w = 3 ∨ w = 4 := by omega
    rcases this with rfl | rfl | rfl | rfl <;> assumption
  rw [decode_sb]
  unfold decodeN
  split
  · rename_i c
    exact .inl ⟨1, by omega, by omega, by omega, k1.2 c, by simp [guessB], by simp [guessB], by simp [guessB]; omega, fun w' hw h1 h4 => by revert hw; revert w'; exact fun w' h1 h4 => all (p := fun w' => Hit s a w' → w' = 1) (fun _ => rfl) (fun h => by have := k2.1 h; omega) (fun h => by have := k3.1 h; omega) (fun h => by have := k4.1 h; omega) w' h1 h4⟩
  · rename_i c1
    split
    · rename_i c2
      split
      · rename_i c3
        exact .inl ⟨2, by omega, by omega, by omega, k2.2 ⟨c2.1, c2.2.2, c3⟩, by simp [guessB]; omega, by simp [guessB]; omega, by simp [guessB]; omega, fun w' hw h1 h4 => by revert hw; revert w'; exact fun w' h1 h4 => all (p := fun w' => Hit s a w' → w' = 2) (fun h => by have := k1.1 h; omega) (fun h => rfl) (fun h => by have := k3.1 h; omega) (fun h => by have := k4.1 h; omega) w' h1 h4⟩
      · rename_i c3
        exact .inr ⟨all (p := fun w => a + w ≤ s.size → ¬ Hit s a w) (fun _ h => by have := k1.1 h; omega) (fun _ h => by have := k2.1 h; omega) (fun _ h => by have := k3.1 h; omega) (fun _ h => by have := k4.1 h; omega), rfl⟩
    · rename_i c2
      split
      · rename_i c4
        split
        · rename_i c3
          exact .inl ⟨3, by omega, by omega, by omega, k3.2 (by omega), by simp [guessB]; omega, by simp [guessB]; omega, by simp [guessB]; omega, fun w' hw h1 h4 => by revert hw; revert w'; exact fun w' h1 h4 => all (p := fun w' => Hit s a w' → w' = 3) (fun h => by have := k1.1 h; omega) (fun h => by have := k2.1 h; omega) (fun h => rfl) (fun h => by have := k4.1 h; omega) w' h1 h4⟩
        · rename_i c3
          exact .inr ⟨all (p := fun w => a + w ≤ s.size → ¬ Hit s a w) (fun _ h => by have := k1.1 h; omega) (fun _ h => by have := k2.1 h; omega) (fun _ h => by have := k3.1 h; omega) (fun _ h => by have := k4.1 h; omega), rfl⟩
      · rename_i c4
        split
        · rename_i c5
          split
          · rename_i c3
            exact .inl ⟨4, by omega, by omega, by omega, k4.2 (by omega), by simp [guessB]; omega, by simp [guessB]; omega, by simp [guessB]; omega, fun w' hw h1 h4 => by revert hw; revert w'; exact fun w' h1 h4 => all (p := fun w' => Hit s a w' → w' = 4) (fun h => by have := k1.1 h; omega) (fun h => by have := k2.1 h; omega) (fun h => by have := k3.1 h; omega) (fun h => rfl) w' h1 h4⟩
          · rename_i c3
            exact .inr ⟨all (p := fun w => a + w ≤ s.size → ¬ Hit s a w) (fun _ h => by have := k1.1 h; omega) (fun _ h => by have := k2.1 h; omega) (fun _ h => by have := k3.1 h; omega) (fun _ h => by have := k4.1 h; omega), rfl⟩
        · rename_i c5
          exact .inr ⟨all (p := fun w => a + w ≤ s.size → ¬ Hit s a w) (fun _ h => by have := k1.1 h; omega) (fun _ h => by have := k2.1 h; omega) (fun _ h => by have := k3.1 h; omega) (fun _ h => by have := k4.1 h; omega), rfl⟩
theorem next_hit {s : ByteArray} {a w : Nat} (hw : 1 ≤ w) (hw4 : w ≤ 4) (hs : a + w ≤ s.size) (h : Hit s a w) : nextR s a = (guessB s a w, w) ∧ 0 ≤ guessB s a w ∧ guessB s a w ≤ 1114111 := by
  rcases decode_cases s a (by omega) with ⟨w', h1, h2, h3, h4, h5, h6, h7, h8⟩ | ⟨h1, _⟩
  · have : w = w' := h8 w h hw hw4
    subst this
    have hne : ¬ (((guessB s a w).toNat, w).1 = 65533 ∧ ((guessB s a w).toNat, w).2 = 1) := fun ⟨e1, e2⟩ => by
      simp only at e1 e2
      subst e2
      have := (hit1 s a).1 h
      simp [guessB] at e1
      omega
    refine ⟨?_, h6, h7⟩
    unfold nextR
    rw [h5, if_pos ⟨by omega, hne⟩]
    simp only [Int.toNat_of_nonneg h6]
  · exact absurd h (h1 w hw hw4 hs)
theorem next_none {s : ByteArray} {a : Nat} (h : ∀ w, 1 ≤ w → w ≤ 4 → a + w ≤ s.size → ¬ Hit s a w) : nextR s a = (-1, 0) := by
  unfold nextR
  by_cases ha : a < s.size
  · rcases decode_cases s a ha with ⟨w', h1, h2, h3, h4, _⟩ | ⟨_, h2⟩
    · exact absurd h4 (h w' h1 h2 h3)
    · rw [h2]; simp
  · rw [if_neg (by omega)]
theorem next_out {s : ByteArray} {a : Nat} (h : s.size ≤ a) : nextR s a = (-1, 0) := next_none fun w h1 h2 h3 => by omega
theorem next_cases (s : ByteArray) (a : Nat) : nextR s a = (-1, 0) ∨ (0 ≤ (nextR s a).1 ∧ (nextR s a).1 ≤ 1114111 ∧ 1 ≤ (nextR s a).2 ∧ (nextR s a).2 ≤ 4 ∧ a + (nextR s a).2 ≤ s.size) := by
  by_cases ha : a < s.size
  · rcases decode_cases s a ha with ⟨w', h1, h2, h3, h4, h5, h6, h7, _⟩ | ⟨h1, h2⟩
    · right
      rw [(next_hit h1 h2 h3 h4).1]
      exact ⟨h6, h7, h1, h2, h3⟩
    · exact .inl (next_none h1)
  · exact .inl (next_out (by omega))
theorem sb_extract {s : ByteArray} {a b k : Nat} (hb : b ≤ s.size) (hk : a + k < b) : sb (s.extract a b) k = sb s (a + k) := by
  rw [sb_get _ _ (by simp; omega), sb_get _ _ (by omega)]
  simp only [ByteArray.getElem_extract]
theorem decodeN_cut {n m b0 b1 b2 b3 c1 c2 c3 : Nat} (h : m = min n 4) (h1 : 1 < n → c1 = b1) (h2 : 2 < n → c2 = b2) (h3 : 3 < n → c3 = b3) : decodeN m b0 c1 c2 c3 = decodeN n b0 b1 b2 b3 := by
  have e1 : (1 < m) = (1 < n) := propext (by omega)
  have e2 : (2 < m) = (2 < n) := propext (by omega)
  have e3 : (3 < m) = (3 < n) := propext (by omega)
  unfold decodeN
  simp only [e1, e2, e3]
  by_cases k1 : 1 < n <;> by_cases k2 : 2 < n <;> by_cases k3 : 3 < n <;> simp only [k1, k2, k3, h1, h2, h3, true_and, and_true, false_and, and_false, if_false, ↓reduceIte]
theorem decode_cut (s : ByteArray) (a : Nat) (ha : a < s.size) : Utf8.decode (s.extract a (min s.size (a + 4))) 0 = Utf8.decode s a := by
  rw [decode_sb, decode_sb]
  simp only [Nat.zero_add]
  have hsz : (s.extract a (min s.size (a + 4))).size = min (s.size - a) 4 := by simp; omega
  have hb : min s.size (a + 4) ≤ s.size := by omega
  have h0 : sb (s.extract a (min s.size (a + 4))) 0 = sb s a := by rw [sb_extract hb (by omega)]; rfl
  rw [h0]
  refine decodeN_cut (by omega) (fun h => ?_) (fun h => ?_) (fun h => ?_) <;> rw [sb_extract hb (by omega)]
theorem decode_fffd (s : ByteArray) (a : Nat) (h : (Utf8.decode s a).1 = 65533) (ha : a < s.size) : (Utf8.decode s a).2 = 1 ∨ (Utf8.decode s a).2 = 3 := by
  rcases decode_cases s a ha with ⟨w, h1, h2, h3, h4, h5, h6, h7, _⟩ | ⟨_, h2⟩
  · rw [h5] at h ⊢
    simp only at h ⊢
    have hh := h4
    unfold Hit at hh
    have e : guessB s a w = 65533 := by omega
    rw [e] at hh
    have := congrArg List.length hh
    simp [bytesAt, formB, IsR, formN] at this
    omega
  · rw [h2]; exact .inl rfl
theorem decode_repl (s : ByteArray) (a : Nat) (h : (Utf8.decode s a).1 = 65533) (ha : a < s.size) : (Utf8.decode s a).2 = 3 ↔ (a + 3 ≤ s.size ∧ s.extract a (a + 3) = bstr [239, 191, 189]) := by
  constructor
  · intro h3
    rcases decode_cases s a ha with ⟨w, h1, h2, hs, h4, h5, h6, h7, _⟩ | ⟨_, h2⟩
    · rw [h5] at h h3
      simp only at h h3
      subst h3
      refine ⟨hs, ?_⟩
      rw [(hit_eq hs).1 h4]
      have e : guessB s a 3 = 65533 := by omega
      rw [e]; rfl
    · rw [h2] at h3; cases h3
  · rintro ⟨hs, he⟩
    have hg : bytesAt s a 3 = [239, 191, 189] := by
      rw [extract_bytes s a 3 hs] at he
      exact (bstr_inj (bytesAt_lt s a 3) (by intro b hb; simp at hb; omega)).1 he
    simp [bytesAt, List.range_succ] at hg
    have k3 := (hit3 s a).2 (by omega)
    have := (next_hit (by omega) (by omega) hs k3)
    rcases decode_cases s a ha with ⟨w, h1, h2, hs, h4, h5, h6, h7, h8⟩ | ⟨hn, h2⟩
    · rw [h5]; exact (h8 3 k3 (by omega) (by omega)).symm
    · exact absurd k3 (hn 3 (by omega) (by omega) hs)
theorem decode_width (s : ByteArray) (a : Nat) (ha : a < s.size) (h : ¬ ((Utf8.decode s a).1 = 65533 ∧ (Utf8.decode s a).2 = 1)) :
    (Utf8.decode s a).2 = if (Utf8.decode s a).1 < 128 then 1 else if (Utf8.decode s a).1 < 2048 then 2 else if (Utf8.decode s a).1 < 65536 then 3 else 4 := by
  rcases decode_cases s a ha with ⟨w, h1, h2, h3, h4, h5, h6, h7, _⟩ | ⟨_, h2⟩
  · rw [h5]
    have hl := hit_len h4
    unfold formB formN at hl
    simp only
    repeat' split at hl
    all_goals simp at hl
    all_goals subst hl
    all_goals (repeat' split)
    all_goals omega
  · rw [h2] at h; exact absurd ⟨rfl, rfl⟩ h
end Go.Proofs.Ytljadkcojnlioaa
namespace Go.Proofs.Ytljadkcojnlioaa
open Go.W Go.RowKit
set_option linter.unusedVariables false
set_option linter.unusedSimpArgs false
def offs (s : ByteArray) : Nat → Nat
  | 0 => 0
  | k + 1 => offs s k + (nextR s (offs s k)).2
def Utf (s : ByteArray) (N : Nat) : Prop := offs s N = s.size ∧ ∀ k, k < N → 0 < (nextR s (offs s k)).2
theorem offs_le (s : ByteArray) (k : Nat) : offs s k ≤ s.size := by
  induction k with
  | zero => exact Nat.zero_le _
  | succ k ih =>
    rw [offs]
    rcases next_cases s (offs s k) with h | h
    · rw [h]; exact ih
    · exact h.2.2.2.2
theorem offs_mono (s : ByteArray) {a b : Nat} (h : a ≤ b) : offs s a ≤ offs s b := by
  induction h with
  | refl => exact Nat.le_refl _
  | step _ ih => rw [offs]; omega
theorem offs_lt {s : ByteArray} {N a b : Nat} (h : ∀ k, k < N → 0 < (nextR s (offs s k)).2) (hab : a < b) (hb : b ≤ N) : offs s a < offs s b := by
  have h1 := h a (by omega)
  have h2 : offs s (a + 1) ≤ offs s b := offs_mono s hab
  rw [offs] at h2
  omega
theorem next_byte {s : ByteArray} {a : Nat} (h : 0 < (nextR s a).2) : a + (nextR s a).2 ≤ s.size ∧ ((nextR s a).1 < 128 → (nextR s a).2 = 1 ∧ (sb s a : Int) = (nextR s a).1) ∧
    (128 ≤ (nextR s a).1 → 128 ≤ sb s a ∧ 128 ≤ sb s (a + (nextR s a).2 - 1)) ∧ 0 ≤ (nextR s a).1 := by
  by_cases ha : a < s.size
  · rcases decode_cases s a ha with ⟨w, h1, h2, h3, hh, -, h4, h5, -⟩ | ⟨h1, -⟩
    · rw [(next_hit h1 h2 h3 hh).1]
      refine ⟨h3, ?_, ?_, h4⟩
      all_goals
        have e : w = 1 ∨ w = 2 ∨ w = 3 ∨ w = 4 := by omega
        rcases e with rfl | rfl | rfl | rfl
        · have := (hit1 s a).1 hh
          intro hg
          rw [show guessB s a 1 = (sb s a : Int) from by simp [guessB]] at hg ⊢
          dsimp only
          omega
        · have := (hit2 s a).1 hh
          intro hg
          simp only [guessB, if_true, show (2 : Nat) ≠ 1 from by decide, if_false, show a + 2 - 1 = a + 1 from by omega] at hg ⊢
          omega
        · have := (hit3 s a).1 hh
          intro hg
          simp only [guessB, if_true, show (3 : Nat) ≠ 1 from by decide, show (3 : Nat) ≠ 2 from by decide, if_false, show a + 3 - 1 = a + 2 from by omega] at hg ⊢
          omega
        · have := (hit4 s a).1 hh
          intro hg
          simp only [guessB, if_true, show (4 : Nat) ≠ 1 from by decide, show (4 : Nat) ≠ 2 from by decide, show (4 : Nat) ≠ 3 from by decide, if_false, show a + 4 - 1 = a + 3 from by omega] at hg ⊢
          omega
    · rw [next_none h1] at h; cases h
  · rw [next_out (by omega)] at h; cases h
def WordB (s : ByteArray) (j : Int) : Prop := 0 ≤ j ∧ j < s.size ∧ wordN (sb s j.toNat)
instance (s : ByteArray) (j : Int) : Decidable (WordB s j) := by unfold WordB; infer_instance
def GoesB (s : ByteArray) (c : In) (i : Nat) : Prop := c.op = 3 ∨ c.op = 4 ∨ c.op = 10 ∨ (c.op = 5 ∧ i = 0) ∨ (c.op = 6 ∧ i = s.size) ∨ (c.op = 7 ∧ (i = 0 ∨ sb s (i - 1) = 10)) ∨ (c.op = 8 ∧ (i = s.size ∨ sb s i = 10)) ∨
  (c.op = 9 ∧ (¬ (WordB s ((i : Int) - 1) ↔ WordB s i) ↔ c.arg = 0))
def EpsB (l : List In) (s : ByteArray) (i p q : Nat) : Prop := ∃ c, l[p]? = some c ∧ GoesB s c i ∧ ((q : Int) = c.out ∨ (c.op = 3 ∧ (q : Int) = c.alt))
def Nice (c : In) : Prop := c.op ≠ 1 ∧ 0 ≤ c.out ∧ 0 ≤ c.alt ∧ c.rs.length ≤ 1048576
structure ProgOk (x : Rx) (l : List In) (n : Nat) : Prop where
  len : l.length = n + 1
  last : l[n]? = some ⟨1, 0, 0, 0, []⟩
  ops : ∀ p c, p < n → l[p]? = some c → Nice c
  blk : Blk l x 0 n
  good : Good x
section
variable {x : Rx} {l : List In} {n : Nat}
theorem ProgOk.leads (h : ProgOk x l n) (rs : List Int) : Leads l rs 0 n (Mt rs x) := blk_leads h.good 0 n h.blk
structure RngC (m : Nat) (c : In) : Prop where
  eps : (3 ≤ c.op ∧ c.op ≤ 10) → 0 ≤ c.out ∧ c.out < m
  alt : c.op = 3 → 0 ≤ c.alt ∧ c.alt < m
  eat : c.op = 2 → (∃ r, InR r c.rs) → 0 ≤ c.out ∧ c.out < m
def Rng (l : List In) : Prop := ∀ (p : Nat) (c : In), l[p]? = some c → RngC l.length c
theorem ProgOk.rng (h : ProgOk x l n) : Rng l := fun p c hc => by
  have hlen := h.len
  by_cases hp : p < n
  · obtain ⟨h1, h2, h3, -⟩ := h.ops p c hp hc
    have key : ∀ (rs : List Int) (i : Nat), GoesOn rs c i → c.out < l.length := fun rs i hg => by
      have := (h.leads rs).cl p i c.out.toNat i (by omega) hp (.inl ⟨rfl, c, hc, hg, .inl (by omega)⟩)
      omega
    refine ⟨fun h4 => ⟨h2, ?_⟩, fun h5 => ⟨h3, ?_⟩, fun h4 ⟨r, hr⟩ => ⟨h2, ?_⟩⟩
    · have e : c.op = 3 ∨ c.op = 4 ∨ c.op = 10 ∨ (c.op = 5 ∨ c.op = 6 ∨ c.op = 7 ∨ c.op = 8) ∨ c.op = 9 := by omega
      rcases e with e | e | e | e | e
      · exact key [] 0 (by unfold GoesOn; omega)
      · exact key [] 0 (by unfold GoesOn; omega)
      · exact key [] 0 (by unfold GoesOn; omega)
      · refine key [] 0 ?_
        unfold GoesOn Plc
        rcases e with e | e | e | e <;> rw [e] <;> simp
      · by_cases ha : c.arg = 0
        · refine key [97] 0 ?_
          unfold GoesOn Plc Bef Aft
          rw [e, ha]; simp [wordI]
        · refine key [] 0 ?_
          unfold GoesOn Plc Bef Aft
          rw [e, if_neg ha]; simp
    · have := (h.leads []).cl p 0 c.alt.toNat 0 (by omega) hp (.inl ⟨rfl, c, hc, .inl h5, .inr ⟨h5, by omega⟩⟩)
      omega
    · have := (h.leads [r]).cl p 0 c.out.toNat 1 (by omega) hp (.inr ⟨rfl, c, hc, h4, by omega, r, rfl, hr⟩)
      omega
  · have h1 := (List.getElem?_eq_some_iff.1 hc).1
    obtain rfl : p = n := by omega
    rw [h.last] at hc
    cases hc
    exact ⟨fun h => by simp at h, fun h => by simp at h, fun h => by simp at h⟩
end
inductive EpsS (l : List In) (s : ByteArray) (i : Nat) (init : List Nat) : Nat → Prop
  | base {q : Nat} : q ∈ init → EpsS l s i init q
  | step {p q : Nat} : EpsS l s i init p → EpsB l s i p q → EpsS l s i init q
structure SI (l : List In) (s : ByteArray) (i : Nat) (init ls : List Nat) (k : Nat) (out : List Nat) : Prop where
  le : k ≤ ls.length
  bound : ls.length ≤ init.length + 2 * out.length
  rng : ∀ q, q ∈ ls → q < l.length
  nd : out.Nodup
  done : ∀ j (h : j < ls.length), j < k → ls[j] ∈ out
  succ : ∀ p q, p ∈ out → EpsB l s i p q → q ∈ ls
  sound : ∀ q, q ∈ ls → EpsS l s i init q
  sub : ∀ q, q ∈ out → q ∈ ls
  init : ∀ q, q ∈ init → q ∈ ls
section
variable {l : List In} {s : ByteArray} {i : Nat} {init ls out : List Nat} {k : Nat}
theorem SI.skip (h : SI l s i init ls k out) (hk : k < ls.length) (hm : ls[k] ∈ out) : SI l s i init ls (k + 1) out where
  le := hk
  bound := h.bound
  rng := h.rng
  nd := h.nd
  done := fun j hj hjk => by
    by_cases e : j < k
    · exact h.done j hj e
    · obtain rfl : j = k := by omega
      exact hm
  succ := h.succ
  sound := h.sound
  sub := h.sub
  init := h.init
theorem SI.take (h : SI l s i init ls k out) (hk : k < ls.length) (hm : ls[k] ∉ out) {more : List Nat} (h2 : more.length ≤ 2) (hmore : ∀ q, q ∈ more ↔ EpsB l s i ls[k] q) (hr : ∀ q, q ∈ more → q < l.length) : SI l s i init (ls ++ more) (k + 1) (out ++ [ls[k]]) where
  le := by rw [List.length_append]; omega
  bound := by have := h.bound; simp only [List.length_append, List.length_cons, List.length_nil]; omega
  rng := fun q hq => by
    rcases List.mem_append.1 hq with hq | hq
    · exact h.rng q hq
    · exact hr q hq
  nd := by
    rw [List.nodup_append]
    exact ⟨h.nd, by simp, fun a ha b hb e => by rw [List.mem_singleton] at hb; subst hb; subst e; exact hm ha⟩
  done := fun j hj hjk => by
    rw [List.getElem_append_left (by omega)]
    by_cases e : j < k
    · exact List.mem_append_left _ (h.done j (by omega) e)
    · obtain rfl : j = k := by omega
      exact List.mem_append_right _ (by simp)
  succ := fun p q hp he => by
    rcases List.mem_append.1 hp with hp | hp
    · exact List.mem_append_left _ (h.succ p q hp he)
    · rw [List.mem_singleton] at hp; subst hp
      exact List.mem_append_right _ ((hmore q).2 he)
  sound := fun q hq => by
    rcases List.mem_append.1 hq with hq | hq
    · exact h.sound q hq
    · exact .step (h.sound _ (List.getElem_mem hk)) ((hmore q).1 hq)
  sub := fun q hq => by
    rcases List.mem_append.1 hq with hq | hq
    · exact List.mem_append_left _ (h.sub q hq)
    · rw [List.mem_singleton] at hq; subst hq
      exact List.mem_append_left _ (List.getElem_mem hk)
  init := fun q hq => List.mem_append_left _ (h.init q hq)
end
end Go.Proofs.Ytljadkcojnlioaa
namespace Go.Proofs.Ytljadkcojnlioaa
open Go.W Go.RowKit
set_option linter.unusedVariables false
set_option linter.unusedSimpArgs false
structure Fl where
  fold : Bool
  lines : Bool
  dots : Bool
  lazy : Bool
structure PS where
  pos : Nat
  now : Fl
  opn : Nat
  names : List ByteArray
abbrev PX (α : Type) := Except Int (α × PS)
abbrev emp : ByteArray := ByteArray.mk #[]
def rxK (k : Int) : Rx := .mk k 0 [] 0 0 false 0 emp []
def rxLit (c : Int) : Rx := .mk 2 c [] 0 0 false 0 emp []
def rxCls (l : List (Int × Int)) : Rx := .mk 3 0 l 0 0 false 0 emp []
def rxRow (k : Int) (l : List Rx) : Rx := .mk k 0 [] 0 0 false 0 emp l
def rxRep (lo hi : Int) (z : Bool) (x : Rx) : Rx := .mk 6 0 [] lo hi z 0 emp [x]
def rxGrp (n : Int) (nm : ByteArray) (x : Rx) : Rx := .mk 7 0 [] 0 0 false n nm [x]
def rowP (k : Int) : List Rx → Rx
  | [] => rxK 1
  | [x] => x
  | l => rxRow k l
noncomputable def nodeS (S : Int → Prop) : Rx := match canon S with
  | [(a, b)] => if a = b then rxLit a else rxCls [(a, b)]
  | l => rxCls l
def foldS (S : Int → Prop) : Int → Prop := fun c => S c ∨ (97 ≤ c ∧ c ≤ 122 ∧ S (c - 32)) ∨ (65 ≤ c ∧ c ≤ 90 ∧ S (c + 32))
def negS (S : Int → Prop) : Int → Prop := fun c => 0 ≤ c ∧ c ≤ 1114111 ∧ ¬ S c
noncomputable def litP (f : Fl) (c : Int) : Rx := nodeS (if f.fold = true then foldS (fun x => x = c) else fun x => x = c)
def isB (s : ByteArray) (i b : Nat) : Prop := i < s.size ∧ sb s i = b
instance (s : ByteArray) (i b : Nat) : Decidable (isB s i b) := by unfold isB; infer_instance
def digN (c : Nat) : Prop := 48 ≤ c ∧ c ≤ 57
instance (c : Nat) : Decidable (digN c) := by unfold digN; infer_instance
def pNum (s : ByteArray) : Nat → Nat → Int → Int × Nat
  | 0, i, n => (n, i)
  | f + 1, i, n => if i < s.size ∧ digN (sb s i) then pNum s f (i + 1) (min (n * 10 + ((sb s i : Int) - 48)) 1001) else (n, i)
def pRep (r : ByteArray) : Int × Int × Nat :=
  if sb r 0 = 42 then (0, -1, 1) else if sb r 0 = 43 then (1, -1, 1) else if sb r 0 = 63 then (0, 1, 1) else if sb r 0 ≠ 123 then (0, 0, 0)
  else if 1 < (pNum r r.size 1 0).2 ∧ isB r (pNum r r.size 1 0).2 44 then
    if isB r (pNum r r.size ((pNum r r.size 1 0).2 + 1) 0).2 125 then
      ((pNum r r.size 1 0).1, (if (pNum r r.size ((pNum r r.size 1 0).2 + 1) 0).2 = (pNum r r.size 1 0).2 + 1 then -1 else (pNum r r.size ((pNum r r.size 1 0).2 + 1) 0).1), (pNum r r.size ((pNum r r.size 1 0).2 + 1) 0).2 + 1)
    else (0, 0, 0)
  else if (pNum r r.size 1 0).2 = 1 ∨ ¬ isB r (pNum r r.size 1 0).2 125 then (0, 0, 0)
  else ((pNum r r.size 1 0).1, (pNum r r.size 1 0).1, (pNum r r.size 1 0).2 + 1)
def hexD (c : Nat) : Option Nat := if 48 ≤ c ∧ c ≤ 57 then some (c - 48) else if 97 ≤ c ∧ c ≤ 102 then some (c - 97 + 10) else if 65 ≤ c ∧ c ≤ 70 then some (c - 65 + 10) else none
def pHexD (s : ByteArray) (i : Nat) : Except Int (Nat × Nat) := if i < s.size then (match hexD (sb s i) with | some d => .ok (d, i + 1) | none => .error 83) else .error 83
def pHexL (s : ByteArray) : Nat → Nat → Nat → Except Int (Nat × Nat)
  | 0, n, i => .error 83
  | f + 1, n, i => if isB s i 125 then .ok (n, i + 1) else match pHexD s i with
    | .error e => .error e
    | .ok (d, j) => if 1114111 < n * 16 + d then .error 83 else pHexL s f (n * 16 + d) j
def pHex (s : ByteArray) (i : Nat) : Except Int (Nat × Nat) :=
  if isB s i 123 then (match pHexD s (i + 1) with | .error e => .error e | .ok (d, j) => pHexL s (s.size + 1 - j) d j)
  else match pHexD s i with
    | .error e => .error e
    | .ok (a, j) => match pHexD s j with | .error e => .error e | .ok (b, k) => .ok (a * 16 + b, k)
def escC (c : Nat) : Option Nat := if c = 97 then some 7 else if c = 102 then some 12 else if c = 116 then some 9 else if c = 110 then some 10 else if c = 114 then some 13 else if c = 118 then some 11 else none
def pEsc (s : ByteArray) (i : Nat) : Except Int (Nat × Nat) :=
  if s.size ≤ i + 1 then .error 83 else match escC (sb s (i + 1)) with
    | some v => .ok (v, i + 2)
    | none => if sb s (i + 1) = 120 then pHex s (i + 2) else if 128 ≤ sb s (i + 1) ∨ (wordN (sb s (i + 1)) ∧ sb s (i + 1) ≠ 95) then .error 83 else .ok (sb s (i + 1), i + 2)
def rs (l : List (Int × Int)) : Int → Prop := fun c => InR c l
def letS (c : Nat) : Option (Int → Prop) :=
  if c = 100 then some (rs [(48, 57)]) else if c = 115 then some (rs [(9, 10), (12, 13), (32, 32)]) else if c = 119 then some (rs [(48, 57), (65, 90), (95, 95), (97, 122)])
  else if c = 68 then some (negS (rs [(48, 57)])) else if c = 83 then some (negS (rs [(9, 10), (12, 13), (32, 32)])) else if c = 87 then some (negS (rs [(48, 57), (65, 90), (95, 95), (97, 122)])) else none
def asc (l : List Nat) : ByteArray := bstr l
def namS (n : ByteArray) : Option (Int → Prop) :=
  if n = asc [97, 108, 110, 117, 109] then some (rs [(48, 57), (65, 90), (97, 122)])
  else if n = asc [97, 108, 112, 104, 97] then some (rs [(65, 90), (97, 122)])
  else if n = asc [97, 115, 99, 105, 105] then some (rs [(0, 127)])
  else if n = asc [98, 108, 97, 110, 107] then some (rs [(9, 9), (32, 32)])
  else if n = asc [99, 110, 116, 114, 108] then some (rs [(0, 31), (127, 127)])
  else if n = asc [100, 105, 103, 105, 116] then some (rs [(48, 57)])
  else if n = asc [103, 114, 97, 112, 104] then some (rs [(33, 126)])
  else if n = asc [108, 111, 119, 101, 114] then some (rs [(97, 122)])
  else if n = asc [112, 114, 105, 110, 116] then some (rs [(32, 126)])
  else if n = asc [112, 117, 110, 99, 116] then some (rs [(33, 47), (58, 64), (91, 96), (123, 126)])
  else if n = asc [115, 112, 97, 99, 101] then some (rs [(9, 13), (32, 32)])
  else if n = asc [117, 112, 112, 101, 114] then some (rs [(65, 90)])
  else if n = asc [119, 111, 114, 100] then some (rs [(48, 57), (65, 90), (95, 95), (97, 122)])
  else if n = asc [120, 100, 105, 103, 105, 116] then some (rs [(48, 57), (65, 70), (97, 102)]) else none
end Go.Proofs.Ytljadkcojnlioaa
namespace Go.Proofs.Ytljadkcojnlioaa
open Go.W Go.RowKit
set_option linter.unusedVariables false
set_option linter.unusedSimpArgs false
def pOne (s : ByteArray) (i : Nat) : Except Int (Int × Nat) :=
  if sb s i = 92 then (match pEsc s i with | .ok (v, j) => .ok ((v : Int), j) | .error e => .error e) else .ok ((nextR s i).1, i + (nextR s i).2)
def pFind (s : ByteArray) (a b : Nat) : Nat → Nat → Option Nat
  | 0, _ => none
  | f + 1, j => if j + 1 < s.size ∧ sb s j = a ∧ sb s (j + 1) = b then some j else pFind s a b f (j + 1)
def unS (S T : Int → Prop) : Int → Prop := fun c => S c ∨ T c
def rgS (lo hi : Int) : Int → Prop := fun c => lo ≤ c ∧ c ≤ hi
abbrev PR := Except Int ((Int → Prop) × Nat)
noncomputable def pRange (s : ByteArray) (i : Nat) : PR := match pOne s i with
  | .error e => .error e
  | .ok (lo, j) => if isB s j 45 ∧ j + 1 < s.size ∧ sb s (j + 1) ≠ 93 then
      (match pOne s (j + 1) with | .error e => .error e | .ok (hi, k) => if hi < lo then .error 81 else .ok (rgS lo hi, k))
    else .ok (rgS lo lo, j)
noncomputable def pItemR (s : ByteArray) (i : Nat) : PR :=
  if i + 1 < s.size ∧ sb s i = 92 then (match letS (sb s (i + 1)) with | some S => .ok (S, i + 2) | none => pRange s i) else pRange s i
noncomputable def pItem (s : ByteArray) (i : Nat) : PR :=
  if isB s i 91 ∧ isB s (i + 1) 58 then
    (match pFind s 58 93 s.size (i + 2) with
    | none => pItemR s i
    | some j =>
      if i + 2 < j ∧ sb s (i + 2) = 94 then (match namS (s.extract (i + 3) j) with | none => .error 81 | some S => .ok (negS S, j + 2))
      else (match namS (s.extract (i + 2) j) with | none => .error 81 | some S => .ok (S, j + 2)))
  else pItemR s i
noncomputable def pItems (s : ByteArray) : Nat → Bool → (Int → Prop) → Nat → PR
  | 0, _, _, _ => .error 81
  | f + 1, fst, S, i => if s.size ≤ i then .error 81 else if fst = false ∧ sb s i = 93 then .ok (S, i + 1) else match pItem s i with
    | .error e => .error e
    | .ok (T, j) => pItems s f false (unS S T) j
noncomputable def pClass (s : ByteArray) (fl : Fl) (i : Nat) : Except Int (Rx × Nat) :=
  match pItems s (s.size + 1) true (fun _ => False) (if isB s i 94 then i + 1 else i) with
  | .error e => .error e
  | .ok (S, j) => .ok (nodeS (if isB s i 94 then negS (if fl.fold = true then foldS S else S) else if fl.fold = true then foldS S else S), j)
structure Opn where
  size : Nat
  name : ByteArray
  thn : Fl
  capt : Bool
  sett : Bool
  err : Int
def pWord (s : ByteArray) : Nat → Nat → Nat
  | 0, j => j
  | f + 1, j => if j < s.size ∧ wordN (sb s j) then pWord s f (j + 1) else j
def pName (s : ByteArray) (i h : Nat) (fl : Fl) : Opn :=
  if pWord s s.size (i + h) = i + h ∨ ¬ isB s (pWord s s.size (i + h)) 62 then ⟨0, emp, fl, false, false, 85⟩
  else ⟨pWord s s.size (i + h) + 1 - i, s.extract (i + h) (pWord s s.size (i + h)), fl, true, false, 0⟩
def pSet (s : ByteArray) (i : Nat) : Nat → Nat → Bool → Int → Bool → Fl → Opn
  | 0, _, _, _, _, fl => ⟨0, emp, fl, false, false, 84⟩
  | f + 1, j, b, n, m, fl =>
    if s.size ≤ j then ⟨0, emp, fl, false, false, 84⟩
    else if sb s j = 105 then pSet s i f (j + 1) b (n + 1) m { fl with fold := b }
    else if sb s j = 109 then pSet s i f (j + 1) b (n + 1) m { fl with lines := b }
    else if sb s j = 115 then pSet s i f (j + 1) b (n + 1) m { fl with dots := b }
    else if sb s j = 85 then pSet s i f (j + 1) b (n + 1) m { fl with lazy := b }
    else if sb s j = 45 then (if m = true then ⟨0, emp, fl, false, false, 84⟩ else pSet s i f (j + 1) false 0 true fl)
    else if sb s j = 58 ∨ sb s j = 41 then ⟨j + 1 - i, emp, fl, false, decide (sb s j = 41), if n = 0 then 84 else 0⟩
    else ⟨0, emp, fl, false, false, 84⟩
def pOpen (s : ByteArray) (i : Nat) (fl : Fl) : Opn :=
  if ¬ (isB s i 40 ∧ isB s (i + 1) 63) then ⟨1, emp, fl, true, false, 0⟩
  else if isB s (i + 2) 80 ∧ isB s (i + 3) 60 then pName s i 4 fl
  else if isB s (i + 2) 60 then pName s i 3 fl
  else if isB s (i + 2) 58 then ⟨3, emp, fl, false, false, 0⟩
  else pSet s i s.size (i + 2) true 0 false fl
abbrev PL := PX (List Rx)
open Classical in
noncomputable def pBrk (s : ByteArray) (ex : PS → PX Rx) (st : PS) : PL :=
  let o := pOpen s st.pos st.now
  if o.err = 0 ∧ o.sett = true then .ok ([], { st with pos := st.pos + o.size, now := o.thn })
  else if st.opn = 250 then .error 3
  else if o.err ≠ 0 then .error o.err
  else if o.capt = true ∧ (st.names.length = 100 ∨ (o.name ≠ emp ∧ o.name ∈ st.names)) then .error 85
  else match ex ⟨st.pos + o.size, o.thn, st.opn + 1, if o.capt = true then st.names ++ [o.name] else st.names⟩ with
    | .error e => .error e
    | .ok (x, st2) => if isB s st2.pos 41 then
        .ok ([if o.capt = true then rxGrp ((st.names.length : Int) + 1) o.name x else x], { st2 with pos := st2.pos + 1, opn := st2.opn - 1, now := st.now })
      else .error 80
noncomputable def pQuo (s : ByteArray) (fl : Fl) (e : Nat) : Nat → List Rx → Nat → List Rx × Nat
  | 0, l, i => (l, i)
  | f + 1, l, i => if i < e then pQuo s fl e f (l ++ [litP fl (nextR s i).1]) (i + (nextR s i).2) else (l, i)
noncomputable def pQuote (s : ByteArray) (st : PS) : PL := match pFind s 92 69 s.size (st.pos + 2) with
  | some e => .ok ((pQuo s st.now e s.size [] (st.pos + 2)).1, { st with pos := (pQuo s st.now e s.size [] (st.pos + 2)).2 + 2 })
  | none => .ok ((pQuo s st.now s.size s.size [] (st.pos + 2)).1, { st with pos := (pQuo s st.now s.size s.size [] (st.pos + 2)).2 })
noncomputable def pEscape (s : ByteArray) (st : PS) : PL :=
  if s.size ≤ st.pos + 1 then .error 83
  else if sb s (st.pos + 1) = 65 then .ok ([rxK 8], { st with pos := st.pos + 2 })
  else if sb s (st.pos + 1) = 122 then .ok ([rxK 9], { st with pos := st.pos + 2 })
  else if sb s (st.pos + 1) = 98 then .ok ([rxK 12], { st with pos := st.pos + 2 })
  else if sb s (st.pos + 1) = 66 then .ok ([rxK 13], { st with pos := st.pos + 2 })
  else if sb s (st.pos + 1) = 81 then pQuote s st
  else match letS (sb s (st.pos + 1)) with
    | some S => .ok ([nodeS S], { st with pos := st.pos + 2 })
    | none => match pEsc s st.pos with
      | .error e => .error e
      | .ok (v, j) => .ok ([litP st.now v], { st with pos := j })
noncomputable def pPlain (s : ByteArray) (st : PS) : PL :=
  .ok ([if (nextR s st.pos).1 = 46 then (if st.now.dots = true then nodeS (rs [(0, 1114111)]) else nodeS (rs [(0, 9), (11, 1114111)]))
    else if (nextR s st.pos).1 = 94 then rxK (if st.now.lines = true then 10 else 8)
    else if (nextR s st.pos).1 = 36 then rxK (if st.now.lines = true then 11 else 9)
    else litP st.now (nextR s st.pos).1], { st with pos := st.pos + (nextR s st.pos).2 })
noncomputable def pPiece (s : ByteArray) (ex : PS → PX Rx) (st : PS) : PL :=
  if sb s st.pos = 40 then pBrk s ex st
  else if sb s st.pos = 91 then (match pClass s st.now (st.pos + 1) with | .error e => .error e | .ok (x, j) => .ok ([x], { st with pos := j }))
  else if sb s st.pos = 92 then pEscape s st
  else pPlain s st
noncomputable def pAlt (s : ByteArray) (ex : PS → PX Rx) : Nat → List Rx → Bool → PS → PX Rx
  | 0, l, ah, st => .ok (rowP 4 l, st)
  | f + 1, l, ah, st =>
    if s.size ≤ st.pos ∨ sb s st.pos = 124 ∨ sb s st.pos = 41 then .ok (rowP 4 l, st)
    else
      let r := pRep (s.extract st.pos s.size)
      if r.2.2 = 0 then (match pPiece s ex st with
        | .error e => .error e
        | .ok (g, st2) => pAlt s ex f (l ++ g) (decide (0 < g.length)) st2)
      else if ah = false ∨ 1000 < r.1 ∨ 1000 < r.2.1 ∨ (0 ≤ r.2.1 ∧ r.2.1 < r.1) then .error 82
      else if isB s (st.pos + r.2.2) 63 then pAlt s ex f (l.dropLast ++ [rxRep r.1 r.2.1 (!st.now.lazy) (l.getLastD (rxK 1))]) false { st with pos := st.pos + r.2.2 + 1 }
      else pAlt s ex f (l.dropLast ++ [rxRep r.1 r.2.1 st.now.lazy (l.getLastD (rxK 1))]) false { st with pos := st.pos + r.2.2 }
noncomputable def pAlts (s : ByteArray) (ex : PS → PX Rx) : Nat → List Rx → PS → PX Rx
  | 0, l, st => .ok (rowP 5 l, st)
  | f + 1, l, st => if isB s st.pos 124 then (match pAlt s ex (s.size + 1) [] false { st with pos := st.pos + 1 } with
      | .error e => .error e
      | .ok (x, st2) => pAlts s ex f (l ++ [x]) st2)
    else .ok (rowP 5 l, st)
noncomputable def pExpW (s : ByteArray) (ex : PS → PX Rx) (st : PS) : PX Rx := match pAlt s ex (s.size + 1) [] false st with
  | .error e => .error e
  | .ok (x, st2) => pAlts s ex (s.size + 1) [x] st2
noncomputable def pExp (s : ByteArray) : Nat → PS → PX Rx
  | 0 => fun st => pExpW s (fun _ => .error 3) st
  | n + 1 => fun st => pExpW s (pExp s n) st
noncomputable def pParse (s : ByteArray) : Except Int Rx := open Classical in
  if 4096 < s.size then .error 1 else if ¬ ∃ N, Utf s N then .error 4
  else match pExp s 250 ⟨0, ⟨false, false, false, false⟩, 0, []⟩ with
    | .error e => .error e
    | .ok (x, st) => if st.pos < s.size then .error 80 else .ok x
end Go.Proofs.Ytljadkcojnlioaa
namespace Go.Proofs.Ytljadkcojnlioaa
open Go.Proofs
open Go.W Go.RowKit
attribute [local irreducible] Decidable.decide
set_option linter.unusedSimpArgs false
set_option linter.unusedVariables false
theorem Try.agg3 : aggB Try.prog 3 = some false := by kernel_rfl
theorem Try.agg9 : aggB Try.prog 9 = some false := by kernel_rfl
theorem Try.fld41_0 : fieldB Try.prog 41 0 = some 0 := by kernel_rfl
theorem Try.fld41_1 : fieldB Try.prog 41 1 = some 1 := by kernel_rfl
theorem Try.size3 : sizeB Try.prog 3 = some 1 := by kernel_rfl
abbrev rdc (s : ByteArray) (st : PS) (a : Option Addr) (c : Nat) : Array Value := #[.string s, iv (st.pos : Nat), .bool st.now.fold, .bool st.now.lines, .bool st.now.dots, .bool st.now.lazy, iv (st.opn : Nat), .slice a st.names.length c]
structure RdAt (w : World) (b : Nat) (s : ByteArray) (st : PS) (a : Option Addr) (c : Nat) (ob : Option Nat) : Prop where
  blk : w.heap[b]? = some (.cells (rdc s st a c) 41 (0, 0))
  own : OwnS w 9 1 a st.names.length c (st.names.map sv) ob
  ne : ∀ g, ob = some g → g ≠ b
theorem RdAt.ap {w : World} {b : Nat} {s : ByteArray} {st : PS} {a : Option Addr} {c : Nat} {ob : Option Nat} (h : RdAt w b s st a c ob) : Apart (some b) ob := fun g h1 h2 => by cases h1; exact h.ne b h2 rfl
def adv (st : PS) (n : Nat) : PS := { st with pos := st.pos + n }
theorem take_ok {w : World} {b : Nat} {s : ByteArray} {st : PS} {a : Option Addr} {c : Nat} {ob : Option Nat} (hR : RdAt w b s st a c ob) (hs : s.size ≤ 1000000) (ch : Nat) (hc : ch < 256) :
    Calls Try.prog 14 #[.pointer (some ⟨b, 0, none⟩), .int .u8 (ch : Nat)] w (Ret fun v w' => v = .bool (decide (isB s st.pos ch)) ∧ Evo [b] w w' ∧ RdAt w' b s (if isB s st.pos ch then adv st 1 else st) a c ob) := by
  have hap := hR.ap; refine calls_of_cw (N := 35) Try.func14 rfl rfl rfl ?_; refine cw_seq ?_; refine cw_region ?_; refine wl_a ?_; refine wl_nil (nrm_then ?_); refine cw_seq ?_; refine cw_seq ?_; refine cw_quiet (by kernel_rfl) (by kernel_rfl) ?_; refine ql_val rfl (fun _ hq2 => ex_move rfl) ?_; refine ql_val rfl (fun _ hq2 => ex_nilCheck rfl) ?_; refine ql_val rfl (fun _ hq2 => ex_fieldAddr rfl Try.fld41_1) ?_; refine ql_val rfl (fun _ hq2 => ex_load1 rfl Try.agg3 (cell_nth (hq2.blk0 hR.blk) rfl)) ?_; refine ql_val rfl (fun _ hq2 => ex_move rfl) ?_; refine ql_val rfl (fun _ hq2 => ex_nilCheck rfl) ?_; refine ql_val rfl (fun _ hq2 => ex_fieldAddr rfl Try.fld41_0) ?_; refine ql_val rfl (fun _ hq2 => ex_load1 rfl Try.agg9 (cell_nth (hq2.blk0 hR.blk) rfl)) ?_; refine ql_val rfl (fun _ hq2 => ex_len_str rfl Try.underlying9 rfl) ?_; refine ql_val rfl (fun _ hq2 => ex_lss rfl rfl) ?_; refine ql_val rfl (fun _ hq2 => ex_move rfl) ?_; refine ql_split (t := 15) rfl (fun hs15 => ?_) (fun hs15 => ?_)
  ·skip
   have hlt : st.pos < s.size := by omega
   refine ql_go rfl rfl rfl rfl ?_; refine ql_val rfl (fun _ hq2 => ex_move rfl) ?_; refine ql_go rfl rfl rfl rfl ?_; refine ql_val rfl (fun _ hq2 => ex_nilCheck rfl) ?_; refine ql_go rfl rfl rfl rfl ?_; refine ql_val rfl (fun _ hq2 => ex_fieldAddr rfl Try.fld41_0) ?_; refine ql_go rfl rfl rfl rfl ?_; refine ql_val rfl (fun _ hq2 => ex_load1 rfl Try.agg9 (cell_nth (hq2.blk0 hR.blk) rfl)) ?_; refine ql_go rfl rfl rfl rfl ?_; refine ql_val rfl (fun _ hq2 => ex_move rfl) ?_; refine ql_go rfl rfl rfl rfl ?_; refine ql_val rfl (fun _ hq2 => ex_nilCheck rfl) ?_; refine ql_go rfl rfl rfl rfl ?_; refine ql_val rfl (fun _ hq2 => ex_fieldAddr rfl Try.fld41_1) ?_; refine ql_go rfl rfl rfl rfl ?_; refine ql_val rfl (fun _ hq2 => ex_load1 rfl Try.agg3 (cell_nth (hq2.blk0 hR.blk) rfl)) ?_; refine ql_go rfl rfl rfl rfl ?_; refine ql_val rfl (fun _ hq2 => ex_sidx (n := st.pos) rfl rfl Try.underlying9 rfl hlt) ?_; refine ql_go rfl rfl rfl rfl ?_; refine ql_val rfl (fun _ hq2 => ex_move rfl) ?_; refine ql_go rfl rfl rfl rfl ?_; refine ql_val rfl (fun _ hq2 => ex_eql rfl rfl) ?_; refine ql_val rfl (fun _ hq2 => ex_pick_t rfl rfl) ?_; refine ql_nil (fun wq1 hq2 => nrm_then ?_); have hE3 := (Evo.refl [b] w).then hq2; have hB4 := hq2.blk0 hR.blk; have hO5 := hR.own.evo0 hq2; refine cw_if rfl (fun hc27 => ?_) (fun hc27 => ?_)
   ·skip
    refine cw_seq ?_; refine cw_region ?_; refine wl_m ?_; refine wl_val rfl (ex_nilCheck rfl) ?_; refine wl_val rfl (ex_fieldAddr rfl Try.fld41_1) ?_; refine wl_val rfl (ex_load1 rfl Try.agg3 (cell_nth hB4 rfl)) ?_; refine wl_val rfl (ex_add_i64 rfl rfl (by omega) (by omega)) ?_; refine wl_val rfl (ex_nilCheck rfl) ?_; refine wl_val rfl (ex_fieldAddr rfl Try.fld41_1) ?_; refine wl_store1 rfl rfl (by first | rfl | assumption) Try.size3 hB4 rfl fun w6 hB7 hw8 => ?_; have hE9 := hE3.step hw8 (fun y hy => .inl hy); have hO10 := hO5.evo hw8 hap.symm.own1
    try simp only [List.setIfInBounds_toArray, List.set_cons_zero, List.set_cons_succ, Nat.reduceAdd, Nat.zero_add, Nat.add_zero] at hB7
    refine wl_nil (nrm_then ?_); refine cw_seq ?_; refine cw_region ?_; refine wl_a ?_; refine wl_nil (nrm_then ?_); refine cw_ret (ret_then (body_ret1 rfl rfl ?_)); have hb : isB s st.pos ch := ⟨hlt, by omega⟩; refine ⟨congrArg Value.bool (decide_eq_true hb).symm, hE9, ?_⟩
    rw [if_pos hb]; exact ⟨hB7, hO10, hR.ne⟩
   ·skip
    refine cw_skip (nrm_then ?_); refine cw_seq ?_; refine cw_region ?_; refine wl_a ?_; refine wl_nil (nrm_then ?_); refine cw_ret (body_ret1 rfl rfl ?_)
    have hb : ¬ isB s st.pos ch := fun h => by first | exact hs15 (by have := h.1; omega) | exact hc27 (by have := h.2; omega)
    refine ⟨congrArg Value.bool (decide_eq_false hb).symm, hE3, ?_⟩
    rw [if_neg hb]; exact ⟨hB4, hO5, hR.ne⟩
  ·skip
   refine ql_no rfl rfl rfl rfl rfl rfl ?_; refine ql_no rfl rfl rfl rfl rfl rfl ?_; refine ql_no rfl rfl rfl rfl rfl rfl ?_; refine ql_no rfl rfl rfl rfl rfl rfl ?_; refine ql_no rfl rfl rfl rfl rfl rfl ?_; refine ql_no rfl rfl rfl rfl rfl rfl ?_; refine ql_no rfl rfl rfl rfl rfl rfl ?_; refine ql_no rfl rfl rfl rfl rfl rfl ?_; refine ql_no rfl rfl rfl rfl rfl rfl ?_; refine ql_no rfl rfl rfl rfl rfl rfl ?_; refine ql_no rfl rfl rfl rfl rfl rfl ?_; refine ql_val rfl (fun _ hq2 => ex_pick_f rfl rfl) ?_; refine ql_nil (fun wq1 hq2 => nrm_then ?_); have hE11 := (Evo.refl [b] w).then hq2; have hB12 := hq2.blk0 hR.blk; have hO13 := hR.own.evo0 hq2; refine cw_false rfl ?_; refine cw_skip (nrm_then ?_); refine cw_seq ?_; refine cw_region ?_; refine wl_a ?_; refine wl_nil (nrm_then ?_); refine cw_ret (body_ret1 rfl rfl ?_)
   have hb : ¬ isB s st.pos ch := fun h => by first | exact hs15 (by have := h.1; omega) | exact hc27 (by have := h.2; omega)
   refine ⟨congrArg Value.bool (decide_eq_false hb).symm, hE11, ?_⟩
   rw [if_neg hb]; exact ⟨hB12, hO13, hR.ne⟩
end Go.Proofs.Ytljadkcojnlioaa
namespace Go.Proofs.Ytljadkcojnlioaa
open Go.Proofs
open Go.W Go.RowKit
attribute [local irreducible] Decidable.decide
set_option linter.unusedSimpArgs false
set_option linter.unusedVariables false
theorem Try.goes10 : Goes Try.prog 10 := ⟨_, Try.func10, by kernel_rfl, by kernel_rfl⟩
theorem i64r {r : Int} (h0 : -2147483648 ≤ r) (h1 : r ≤ 2147483647) : IntKind.i64.min ≤ r ∧ r ≤ IntKind.i64.max := by
  constructor <;> simp [IntKind.min, IntKind.max, IntKind.signed, IntKind.bits] <;> omega
theorem hexd_no {s : ByteArray} {i : Nat} (h : ¬ i < s.size) : pHexD s i = .error 83 := by unfold pHexD; rw [if_neg h]
theorem hexd_yes {s : ByteArray} {i d : Nat} (h : i < s.size) (hd : hexD (sb s i) = some d) : pHexD s i = .ok (d, i + 1) := by unfold pHexD; rw [if_pos h, hd]
theorem hexd_none {s : ByteArray} {i : Nat} (h : i < s.size) (hd : hexD (sb s i) = none) : pHexD s i = .error 83 := by unfold pHexD; rw [if_pos h, hd]
theorem iv_nat {z : Int} {d : Nat} (h : z = d) : Value.int .i64 z = iv (d : Nat) := by rw [h]
theorem hexDigit_ok {w : World} {b : Nat} {s : ByteArray} {st : PS} {a : Option Addr} {c : Nat} {ob : Option Nat} (hR : RdAt w b s st a c ob) (hs : s.size ≤ 1000000) :
    Calls Try.prog 58 #[.pointer (some ⟨b, 0, none⟩)] w (RetP (fun v w' => ∃ d, pHexD s st.pos = .ok (d, st.pos + 1) ∧ v = iv (d : Nat) ∧ Evo [b] w w' ∧ RdAt w' b s (adv st 1) a c ob) (fun v w' => pHexD s st.pos = .error 83 ∧ v = flt 83 ∧ Evo [b] w w')) := by
  have hap := hR.ap; have hb9 := sb_lt s st.pos; refine calls_of_cw (N := 63) Try.func58 rfl rfl rfl ?_; refine cw_seq ?_; refine cw_region ?_; refine wl_a ?_; refine wl_nil (nrm_then ?_); refine cw_seq ?_; refine cw_seq ?_; refine cw_quiet (by kernel_rfl) (by kernel_rfl) ?_; refine ql_val rfl (fun _ hq2 => ex_move rfl) ?_; refine ql_val rfl (fun _ hq2 => ex_nilCheck rfl) ?_; refine ql_val rfl (fun _ hq2 => ex_fieldAddr rfl Try.fld41_1) ?_; refine ql_val rfl (fun _ hq2 => ex_load1 rfl Try.agg3 (cell_nth (hq2.blk0 hR.blk) rfl)) ?_; refine ql_val rfl (fun _ hq2 => ex_move rfl) ?_; refine ql_val rfl (fun _ hq2 => ex_nilCheck rfl) ?_; refine ql_val rfl (fun _ hq2 => ex_fieldAddr rfl Try.fld41_0) ?_; refine ql_val rfl (fun _ hq2 => ex_load1 rfl Try.agg9 (cell_nth (hq2.blk0 hR.blk) rfl)) ?_; refine ql_val rfl (fun _ hq2 => ex_len_str rfl Try.underlying9 rfl) ?_; refine ql_val rfl (fun _ hq2 => ex_lss rfl rfl) ?_; refine ql_nil (fun wq1 hq2 => nrm_then ?_); have hE3 := (Evo.refl [b] w).then hq2; have hB4 := hq2.blk0 hR.blk; have hO5 := hR.own.evo0 hq2; refine cw_if rfl (fun hc13 => ?_) (fun hc13 => ?_)
  ·skip
   have hlt : st.pos < s.size := by omega
   refine cw_seq ?_; refine cw_quiet (by kernel_rfl) (by kernel_rfl) ?_; refine ql_val rfl (fun _ hq7 => ex_move rfl) ?_; refine ql_val rfl (fun _ hq7 => ex_nilCheck rfl) ?_; refine ql_val rfl (fun _ hq7 => ex_fieldAddr rfl Try.fld41_0) ?_; refine ql_val rfl (fun _ hq7 => ex_load1 rfl Try.agg9 (cell_nth (hq7.blk0 hB4) rfl)) ?_; refine ql_val rfl (fun _ hq7 => ex_move rfl) ?_; refine ql_val rfl (fun _ hq7 => ex_nilCheck rfl) ?_; refine ql_val rfl (fun _ hq7 => ex_fieldAddr rfl Try.fld41_1) ?_; refine ql_val rfl (fun _ hq7 => ex_load1 rfl Try.agg3 (cell_nth (hq7.blk0 hB4) rfl)) ?_; refine ql_val rfl (fun _ hq7 => ex_sidx (n := st.pos) rfl rfl Try.underlying9 rfl hlt) ?_; refine ql_val rfl (fun _ hq7 => ex_assign rfl) ?_; refine ql_nil (fun wq6 hq7 => nrm_then ?_); have hE8 := hE3.then hq7; have hB9 := hq7.blk0 hB4; have hO10 := hO5.evo0 hq7; refine cw_seq ?_; refine cw_region ?_; refine wl_m ?_; refine wl_val rfl (ex_nilCheck rfl) ?_; refine wl_val rfl (ex_fieldAddr rfl Try.fld41_1) ?_; refine wl_val rfl (ex_load1 rfl Try.agg3 (cell_nth hB9 rfl)) ?_; refine wl_val rfl (ex_add_i64 rfl rfl (by omega) (by omega)) ?_; refine wl_val rfl (ex_nilCheck rfl) ?_; refine wl_val rfl (ex_fieldAddr rfl Try.fld41_1) ?_; refine wl_store1 rfl rfl (by first | rfl | assumption) Try.size3 hB9 rfl fun w11 hB12 hw13 => ?_; have hE14 := hE8.step hw13 (fun y hy => .inl hy); have hO15 := hO10.evo hw13 hap.symm.own1
   try simp only [List.setIfInBounds_toArray, List.set_cons_zero, List.set_cons_succ, Nat.reduceAdd, Nat.zero_add, Nat.add_zero] at hB12
   refine wl_nil (nrm_then ?_); refine cw_block ?_; refine cw_seq ?_; refine cw_region ?_; refine wl_m ?_; refine wl_val rfl (ex_geq rfl rfl) ?_; refine wl_m ?_; refine wl_split (t := 33) rfl (fun hs33 => ?_) (fun hs33 => ?_)
   ·skip
    refine wl_g ?_; refine wl_m ?_; refine wl_g ?_; refine wl_val rfl (ex_leq rfl rfl) ?_; refine wl_pt ?_; refine wl_a ?_; refine wl_nil (nrm_then ?_); refine cw_if rfl (fun hc30 => ?_) (fun hc30 => ?_)
    ·skip
     refine cw_seq ?_; refine cw_region ?_; refine wl_m ?_; refine wl_val rfl (ex_sub_u8 rfl rfl (by omega) (by omega)) ?_; refine wl_val rfl (ex_convF rfl Try.underlying5 Try.underlying3 (i64r (by omega) (by omega)).1 (i64r (by omega) (by omega)).2) ?_; refine wl_a ?_; refine wl_nil (nrm_then ?_); refine cw_ret (ret_block (ret_then (bodyp_ret (body_ret1 rfl rfl ?_))))
     exact ⟨_, hexd_yes hlt (by unfold hexD; rw [if_pos (by omega)]), iv_nat (by omega), hE14, hB12, hO15, hR.ne⟩
    ·skip
     refine cw_seq ?_; refine cw_region ?_; refine wl_m ?_; refine wl_val rfl (ex_geq rfl rfl) ?_; refine wl_m ?_; refine wl_split (t := 43) rfl (fun hs43 => ?_) (fun hs43 => ?_)
     ·skip
      refine wl_g ?_; refine wl_m ?_; refine wl_g ?_; refine wl_val rfl (ex_leq rfl rfl) ?_; refine wl_pt ?_; refine wl_a ?_; refine wl_nil (nrm_then ?_); refine cw_if rfl (fun hc40 => ?_) (fun hc40 => ?_)
      ·skip
       refine cw_seq ?_; refine cw_region ?_; refine wl_m ?_; refine wl_val rfl (ex_sub_u8 rfl rfl (by omega) (by omega)) ?_; refine wl_val rfl (ex_convF rfl Try.underlying5 Try.underlying3 (i64r (by omega) (by omega)).1 (i64r (by omega) (by omega)).2) ?_; refine wl_val rfl (ex_add_i64 rfl rfl (by omega) (by omega)) ?_; refine wl_a ?_; refine wl_nil (nrm_then ?_); refine cw_ret (ret_block (ret_then (bodyp_ret (body_ret1 rfl rfl ?_))))
       exact ⟨_, hexd_yes hlt (by unfold hexD; rw [if_neg (by omega), if_pos (by omega)]), iv_nat (by omega), hE14, hB12, hO15, hR.ne⟩
      ·skip
       refine cw_seq ?_; refine cw_region ?_; refine wl_m ?_; refine wl_val rfl (ex_geq rfl rfl) ?_; refine wl_m ?_; refine wl_split (t := 54) rfl (fun hs54 => ?_) (fun hs54 => ?_)
       ·skip
        refine wl_g ?_; refine wl_m ?_; refine wl_g ?_; refine wl_val rfl (ex_leq rfl rfl) ?_; refine wl_pt ?_; refine wl_a ?_; refine wl_nil (nrm_then ?_); refine cw_if rfl (fun hc51 => ?_) (fun hc51 => ?_)
        ·skip
         refine cw_seq ?_; refine cw_region ?_; refine wl_m ?_; refine wl_val rfl (ex_sub_u8 rfl rfl (by omega) (by omega)) ?_; refine wl_val rfl (ex_convF rfl Try.underlying5 Try.underlying3 (i64r (by omega) (by omega)).1 (i64r (by omega) (by omega)).2) ?_; refine wl_val rfl (ex_add_i64 rfl rfl (by omega) (by omega)) ?_; refine wl_a ?_; refine wl_nil (nrm_then ?_); refine cw_ret (ret_block (ret_then (bodyp_ret (body_ret1 rfl rfl ?_))))
         exact ⟨_, hexd_yes hlt (by unfold hexD; rw [if_neg (by omega), if_neg (by omega), if_pos (by omega)]), iv_nat (by omega), hE14, hB12, hO15, hR.ne⟩
        ·skip
         refine cw_skip (nrm_block (nrm_then ?_)); refine cw_seq ?_; refine cw_region ?_; refine wl_callP1 (vs := [_]) Try.goes10 rfl (fail_ok 83) rfl ?_ ?_
         ·skip
          intro pv wp hpp; obtain ⟨rfl, hpe⟩ := hpp
          exact And.intro rfl ⟨_, rfl, hexd_none hlt (by unfold hexD; rw [if_neg (by omega), if_neg (by omega), if_neg (by omega)]), rfl, (hE14).then hpe⟩
         intro _ _ hF; exact hF.elim
       ·skip
        refine wl_n ?_; refine wl_n ?_; refine wl_pf ?_; refine wl_a ?_; refine wl_nil (nrm_then ?_); refine cw_false rfl ?_; refine cw_skip (nrm_block (nrm_then ?_)); refine cw_seq ?_; refine cw_region ?_; refine wl_callP1 (vs := [_]) Try.goes10 rfl (fail_ok 83) rfl ?_ ?_
        ·skip
         intro pv wp hpp; obtain ⟨rfl, hpe⟩ := hpp
         exact And.intro rfl ⟨_, rfl, hexd_none hlt (by unfold hexD; rw [if_neg (by omega), if_neg (by omega), if_neg (by omega)]), rfl, (hE14).then hpe⟩
        intro _ _ hF; exact hF.elim
     ·skip
      refine wl_n ?_; refine wl_n ?_; refine wl_pf ?_; refine wl_a ?_; refine wl_nil (nrm_then ?_); refine cw_false rfl ?_; refine cw_seq ?_; refine cw_region ?_; refine wl_m ?_; refine wl_val rfl (ex_geq rfl rfl) ?_; refine wl_m ?_; refine wl_split (t := 54) rfl (fun hs54 => ?_) (fun hs54 => ?_)
      ·skip
       refine wl_g ?_; refine wl_m ?_; refine wl_g ?_; refine wl_val rfl (ex_leq rfl rfl) ?_; refine wl_pt ?_; refine wl_a ?_; refine wl_nil (nrm_then ?_); refine cw_if rfl (fun hc51 => ?_) (fun hc51 => ?_)
       ·skip
        refine cw_seq ?_; refine cw_region ?_; refine wl_m ?_; refine wl_val rfl (ex_sub_u8 rfl rfl (by omega) (by omega)) ?_; refine wl_val rfl (ex_convF rfl Try.underlying5 Try.underlying3 (i64r (by omega) (by omega)).1 (i64r (by omega) (by omega)).2) ?_; refine wl_val rfl (ex_add_i64 rfl rfl (by omega) (by omega)) ?_; refine wl_a ?_; refine wl_nil (nrm_then ?_); refine cw_ret (ret_block (ret_then (bodyp_ret (body_ret1 rfl rfl ?_))))
        exact ⟨_, hexd_yes hlt (by unfold hexD; rw [if_neg (by omega), if_neg (by omega), if_pos (by omega)]), iv_nat (by omega), hE14, hB12, hO15, hR.ne⟩
       ·skip
        refine cw_skip (nrm_block (nrm_then ?_)); refine cw_seq ?_; refine cw_region ?_; refine wl_callP1 (vs := [_]) Try.goes10 rfl (fail_ok 83) rfl ?_ ?_
        ·skip
         intro pv wp hpp; obtain ⟨rfl, hpe⟩ := hpp
         exact And.intro rfl ⟨_, rfl, hexd_none hlt (by unfold hexD; rw [if_neg (by omega), if_neg (by omega), if_neg (by omega)]), rfl, (hE14).then hpe⟩
        intro _ _ hF; exact hF.elim
      ·skip
       refine wl_n ?_; refine wl_n ?_; refine wl_pf ?_; refine wl_a ?_; refine wl_nil (nrm_then ?_); refine cw_false rfl ?_; refine cw_skip (nrm_block (nrm_then ?_)); refine cw_seq ?_; refine cw_region ?_; refine wl_callP1 (vs := [_]) Try.goes10 rfl (fail_ok 83) rfl ?_ ?_
       ·skip
        intro pv wp hpp; obtain ⟨rfl, hpe⟩ := hpp
        exact And.intro rfl ⟨_, rfl, hexd_none hlt (by unfold hexD; rw [if_neg (by omega), if_neg (by omega), if_neg (by omega)]), rfl, (hE14).then hpe⟩
       intro _ _ hF; exact hF.elim
   ·skip
    refine wl_n ?_; refine wl_n ?_; refine wl_pf ?_; refine wl_a ?_; refine wl_nil (nrm_then ?_); refine cw_false rfl ?_; refine cw_seq ?_; refine cw_region ?_; refine wl_m ?_; refine wl_val rfl (ex_geq rfl rfl) ?_; refine wl_m ?_; refine wl_split (t := 43) rfl (fun hs43 => ?_) (fun hs43 => ?_)
    ·skip
     refine wl_g ?_; refine wl_m ?_; refine wl_g ?_; refine wl_val rfl (ex_leq rfl rfl) ?_; refine wl_pt ?_; refine wl_a ?_; refine wl_nil (nrm_then ?_); refine cw_if rfl (fun hc40 => ?_) (fun hc40 => ?_)
     ·skip
      refine cw_seq ?_; refine cw_region ?_; refine wl_m ?_; refine wl_val rfl (ex_sub_u8 rfl rfl (by omega) (by omega)) ?_; refine wl_val rfl (ex_convF rfl Try.underlying5 Try.underlying3 (i64r (by omega) (by omega)).1 (i64r (by omega) (by omega)).2) ?_; refine wl_val rfl (ex_add_i64 rfl rfl (by omega) (by omega)) ?_; refine wl_a ?_; refine wl_nil (nrm_then ?_); refine cw_ret (ret_block (ret_then (bodyp_ret (body_ret1 rfl rfl ?_))))
      exact ⟨_, hexd_yes hlt (by unfold hexD; rw [if_neg (by omega), if_pos (by omega)]), iv_nat (by omega), hE14, hB12, hO15, hR.ne⟩
     ·skip
      refine cw_seq ?_; refine cw_region ?_; refine wl_m ?_; refine wl_val rfl (ex_geq rfl rfl) ?_; refine wl_m ?_; refine wl_split (t := 54) rfl (fun hs54 => ?_) (fun hs54 => ?_)
      ·skip
       refine wl_g ?_; refine wl_m ?_; refine wl_g ?_; refine wl_val rfl (ex_leq rfl rfl) ?_; refine wl_pt ?_; refine wl_a ?_; refine wl_nil (nrm_then ?_); refine cw_if rfl (fun hc51 => ?_) (fun hc51 => ?_)
       ·skip
        refine cw_seq ?_; refine cw_region ?_; refine wl_m ?_; refine wl_val rfl (ex_sub_u8 rfl rfl (by omega) (by omega)) ?_; refine wl_val rfl (ex_convF rfl Try.underlying5 Try.underlying3 (i64r (by omega) (by omega)).1 (i64r (by omega) (by omega)).2) ?_; refine wl_val rfl (ex_add_i64 rfl rfl (by omega) (by omega)) ?_; refine wl_a ?_; refine wl_nil (nrm_then ?_); refine cw_ret (ret_block (ret_then (bodyp_ret (body_ret1 rfl rfl ?_))))
        exact ⟨_, hexd_yes hlt (by unfold hexD; rw [if_neg (by omega), if_neg (by omega), if_pos (by omega)]), iv_nat (by omega), hE14, hB12, hO15, hR.ne⟩
       ·skip
        refine cw_skip (nrm_block (nrm_then ?_)); refine cw_seq ?_; refine cw_region ?_; refine wl_callP1 (vs := [_]) Try.goes10 rfl (fail_ok 83) rfl ?_ ?_
        ·skip
         intro pv wp hpp; obtain ⟨rfl, hpe⟩ := hpp
         exact And.intro rfl ⟨_, rfl, hexd_none hlt (by unfold hexD; rw [if_neg (by omega), if_neg (by omega), if_neg (by omega)]), rfl, (hE14).then hpe⟩
        intro _ _ hF; exact hF.elim
      ·skip
       refine wl_n ?_; refine wl_n ?_; refine wl_pf ?_; refine wl_a ?_; refine wl_nil (nrm_then ?_); refine cw_false rfl ?_; refine cw_skip (nrm_block (nrm_then ?_)); refine cw_seq ?_; refine cw_region ?_; refine wl_callP1 (vs := [_]) Try.goes10 rfl (fail_ok 83) rfl ?_ ?_
       ·skip
        intro pv wp hpp; obtain ⟨rfl, hpe⟩ := hpp
        exact And.intro rfl ⟨_, rfl, hexd_none hlt (by unfold hexD; rw [if_neg (by omega), if_neg (by omega), if_neg (by omega)]), rfl, (hE14).then hpe⟩
       intro _ _ hF; exact hF.elim
    ·skip
     refine wl_n ?_; refine wl_n ?_; refine wl_pf ?_; refine wl_a ?_; refine wl_nil (nrm_then ?_); refine cw_false rfl ?_; refine cw_seq ?_; refine cw_region ?_; refine wl_m ?_; refine wl_val rfl (ex_geq rfl rfl) ?_; refine wl_m ?_; refine wl_split (t := 54) rfl (fun hs54 => ?_) (fun hs54 => ?_)
     ·skip
      refine wl_g ?_; refine wl_m ?_; refine wl_g ?_; refine wl_val rfl (ex_leq rfl rfl) ?_; refine wl_pt ?_; refine wl_a ?_; refine wl_nil (nrm_then ?_); refine cw_if rfl (fun hc51 => ?_) (fun hc51 => ?_)
      ·skip
       refine cw_seq ?_; refine cw_region ?_; refine wl_m ?_; refine wl_val rfl (ex_sub_u8 rfl rfl (by omega) (by omega)) ?_; refine wl_val rfl (ex_convF rfl Try.underlying5 Try.underlying3 (i64r (by omega) (by omega)).1 (i64r (by omega) (by omega)).2) ?_; refine wl_val rfl (ex_add_i64 rfl rfl (by omega) (by omega)) ?_; refine wl_a ?_; refine wl_nil (nrm_then ?_); refine cw_ret (ret_block (ret_then (bodyp_ret (body_ret1 rfl rfl ?_))))
       exact ⟨_, hexd_yes hlt (by unfold hexD; rw [if_neg (by omega), if_neg (by omega), if_pos (by omega)]), iv_nat (by omega), hE14, hB12, hO15, hR.ne⟩
      ·skip
       refine cw_skip (nrm_block (nrm_then ?_)); refine cw_seq ?_; refine cw_region ?_; refine wl_callP1 (vs := [_]) Try.goes10 rfl (fail_ok 83) rfl ?_ ?_
       ·skip
        intro pv wp hpp; obtain ⟨rfl, hpe⟩ := hpp
        exact And.intro rfl ⟨_, rfl, hexd_none hlt (by unfold hexD; rw [if_neg (by omega), if_neg (by omega), if_neg (by omega)]), rfl, (hE14).then hpe⟩
       intro _ _ hF; exact hF.elim
     ·skip
      refine wl_n ?_; refine wl_n ?_; refine wl_pf ?_; refine wl_a ?_; refine wl_nil (nrm_then ?_); refine cw_false rfl ?_; refine cw_skip (nrm_block (nrm_then ?_)); refine cw_seq ?_; refine cw_region ?_; refine wl_callP1 (vs := [_]) Try.goes10 rfl (fail_ok 83) rfl ?_ ?_
      ·skip
       intro pv wp hpp; obtain ⟨rfl, hpe⟩ := hpp
       exact And.intro rfl ⟨_, rfl, hexd_none hlt (by unfold hexD; rw [if_neg (by omega), if_neg (by omega), if_neg (by omega)]), rfl, (hE14).then hpe⟩
      intro _ _ hF; exact hF.elim
  ·skip
   refine cw_skip (nrm_then ?_); refine cw_seq ?_; refine cw_region ?_; refine wl_callP1 (vs := [_]) Try.goes10 rfl (fail_ok 83) rfl ?_ ?_
   ·skip
    intro pv wp hpp; obtain ⟨rfl, hpe⟩ := hpp; exact And.intro rfl ⟨_, rfl, hexd_no (by omega), rfl, (hE3).then hpe⟩
   intro _ _ hF; exact hF.elim
end Go.Proofs.Ytljadkcojnlioaa
namespace Go.Proofs.Ytljadkcojnlioaa
open Go.Proofs
open Go.W Go.RowKit
attribute [local irreducible] Decidable.decide
set_option linter.unusedSimpArgs false
set_option linter.unusedVariables false
theorem Try.goes14 : Goes Try.prog 14 := ⟨_, Try.func14, by kernel_rfl, by kernel_rfl⟩
theorem Try.goes58 : Goes Try.prog 58 := ⟨_, Try.func58, by kernel_rfl, by kernel_rfl⟩
def pset (st : PS) (j : Nat) : PS := { st with pos := j }
theorem hexd_cases (s : ByteArray) (i : Nat) : pHexD s i = .error 83 ∨ ∃ d, d < 16 ∧ i < s.size ∧ pHexD s i = .ok (d, i + 1) := by
  unfold pHexD
  by_cases h : i < s.size
  · rw [if_pos h]
    unfold hexD
    split
    · rename_i d hd
      refine .inr ⟨d, ?_, h, rfl⟩
      split at hd
      · cases hd; omega
      · split at hd
        · cases hd; omega
        · split at hd
          · cases hd; omega
          · cases hd
    · exact .inl rfl
  · rw [if_neg h]; exact .inl rfl
theorem i32r {r : Int} (h0 : -2147483648 ≤ r) (h1 : r ≤ 2147483647) : IntKind.i32.min ≤ r ∧ r ≤ IntKind.i32.max := by
  constructor <;> simp [IntKind.min, IntKind.max, IntKind.signed, IntKind.bits] <;> omega
theorem hexl_end {s : ByteArray} {n i : Nat} (hi : i ≤ s.size) (h : isB s i 125) : pHexL s (s.size + 1 - i) n i = .ok (n, i + 1) := by
  rw [show s.size + 1 - i = (s.size - i) + 1 by omega, pHexL, if_pos h]
theorem hexl_err {s : ByteArray} {n i : Nat} (hi : i ≤ s.size) (h : ¬ isB s i 125) (he : pHexD s i = .error 83) : pHexL s (s.size + 1 - i) n i = .error 83 := by
  rw [show s.size + 1 - i = (s.size - i) + 1 by omega, pHexL, if_neg h, he]
theorem hexl_big {s : ByteArray} {n i d : Nat} (hi : i ≤ s.size) (h : ¬ isB s i 125) (he : pHexD s i = .ok (d, i + 1)) (hb : 1114111 < n * 16 + d) : pHexL s (s.size + 1 - i) n i = .error 83 := by
  rw [show s.size + 1 - i = (s.size - i) + 1 by omega, pHexL, if_neg h, he]
  show (if 1114111 < n * 16 + d then _ else _) = _
  rw [if_pos hb]
theorem hexl_go {s : ByteArray} {n i d : Nat} (hi : i < s.size) (h : ¬ isB s i 125) (he : pHexD s i = .ok (d, i + 1)) (hb : ¬ 1114111 < n * 16 + d) : pHexL s (s.size + 1 - i) n i = pHexL s (s.size + 1 - (i + 1)) (n * 16 + d) (i + 1) := by
  rw [show s.size + 1 - i = (s.size + 1 - (i + 1)) + 1 by omega, pHexL, if_neg h, he]
  show (if 1114111 < n * 16 + d then _ else _) = _
  rw [if_neg hb]
theorem hexd_lt {s : ByteArray} {i d j : Nat} (h : pHexD s i = .ok (d, j)) : d < 16 := by
  rcases hexd_cases s i with e | ⟨d', h1, _, e⟩ <;> rw [e] at h <;> cases h
  exact h1
theorem hex_a {s : ByteArray} {i : Nat} (h : ¬ isB s i 123) (e : pHexD s i = .error 83) : pHex s i = .error 83 := by unfold pHex; rw [if_neg h, e]
theorem hex_b {s : ByteArray} {i d : Nat} (h : ¬ isB s i 123) (e : pHexD s i = .ok (d, i + 1)) (e2 : pHexD s (i + 1) = .error 83) : pHex s i = .error 83 := by
  unfold pHex; rw [if_neg h, e]; show (match pHexD s (i + 1) with | .error e => _ | .ok (b, k) => _) = _; rw [e2]
theorem hex_c {s : ByteArray} {i d f : Nat} (h : ¬ isB s i 123) (e : pHexD s i = .ok (d, i + 1)) (e2 : pHexD s (i + 1) = .ok (f, i + 1 + 1)) : pHex s i = .ok (d * 16 + f, i + 1 + 1) := by
  unfold pHex; rw [if_neg h, e]; show (match pHexD s (i + 1) with | .error e => _ | .ok (b, k) => _) = _; rw [e2]
theorem hex_d {s : ByteArray} {i : Nat} (h : isB s i 123) (e : pHexD s (i + 1) = .error 83) : pHex s i = .error 83 := by unfold pHex; rw [if_pos h, e]
theorem hex_e {s : ByteArray} {i d : Nat} (h : isB s i 123) (e : pHexD s (i + 1) = .ok (d, i + 1 + 1)) : pHex s i = pHexL s (s.size + 1 - (i + 1 + 1)) d (i + 1 + 1) := by unfold pHex; rw [if_pos h, e]
structure HxG where
  n : Nat
  p : Nat
structure HxI (w : World) (b : Nat) (s : ByteArray) (st : PS) (a : Option Addr) (c : Nat) (ob : Option Nat) (x : HxG) : Prop where
  hp : x.p ≤ s.size
  hn : x.n ≤ 1114111
  hr : RdAt w b s (pset st x.p) a c ob
  eq : pHex s st.pos = pHexL s (s.size + 1 - x.p) x.n x.p
theorem hexd_in {s : ByteArray} {i d j : Nat} (h : pHexD s i = .ok (d, j)) : i < s.size := by
  rcases hexd_cases s i with e | ⟨d', _, h1, e⟩ <;> rw [e] at h <;> cases h
  exact h1
theorem hex_ok {w : World} {b : Nat} {s : ByteArray} {st : PS} {a : Option Addr} {c : Nat} {ob : Option Nat} (hR : RdAt w b s st a c ob) (hs : s.size ≤ 1000000) :
    Calls Try.prog 50 #[.pointer (some ⟨b, 0, none⟩)] w (RetP (fun v w' => ∃ n j, pHex s st.pos = .ok (n, j) ∧ v = .int .i32 (n : Nat) ∧ Evo [b] w w' ∧ RdAt w' b s (pset st j) a c ob) (fun v w' => pHex s st.pos = .error 83 ∧ v = flt 83 ∧ Evo [b] w w')) := by
  have hap := hR.ap; refine calls_of_cw (N := 33) Try.func50 rfl rfl rfl ?_; refine cw_seq ?_; refine cw_region ?_; refine wl_a ?_; refine wl_nil (nrm_then ?_); refine cw_seq ?_; refine cw_seq ?_; refine cw_region ?_; refine wl_m ?_; refine wl_call1 (vs := [_, _]) Try.goes14 rfl (take_ok hR hs 123 (by decide)) rfl ?_; rintro _ w1 ⟨rfl, hw2, hR1⟩; have hE3 := (Evo.refl [b] w).step hw2 (fun y hy => .inl hy); refine wl_val rfl (ex_not rfl) ?_; refine wl_nil (nrm_then ?_); refine cw_if rfl (fun hc8 => ?_) (fun hc8 => ?_)
  ·skip
   rw [if_neg hc8] at hR1; refine cw_seq ?_; refine cw_region ?_; refine wl_m ?_; refine wl_callP1 (vs := [_]) Try.goes58 rfl (hexDigit_ok hR1 hs) rfl ?_ ?_
   ·skip
    intro pv wp hpp; obtain ⟨hpe, rfl, hpw⟩ := hpp; exact And.intro rfl ⟨_, rfl, hex_a hc8 hpe, rfl, (hE3).step hpw (fun y hy => .inl hy)⟩
   rintro _ w4 ⟨d1, hd1, rfl, hw5, hR2⟩; have hE6 := hE3.step hw5 (fun y hy => .inl hy); have hl1 := hexd_lt hd1; refine wl_m ?_; refine wl_callP1 (vs := [_]) Try.goes58 rfl (hexDigit_ok hR2 hs) rfl ?_ ?_
   ·skip
    intro pv wp hpp; obtain ⟨hpe, rfl, hpw⟩ := hpp; exact And.intro rfl ⟨_, rfl, hex_b hc8 hd1 hpe, rfl, (hE6).step hpw (fun y hy => .inl hy)⟩
   rintro _ w7 ⟨d2, hd2, rfl, hw8, hR3⟩; have hE9 := hE6.step hw8 (fun y hy => .inl hy); have hl2 := hexd_lt hd2; refine wl_a ?_; refine wl_a ?_; refine wl_nil (nrm_then ?_); refine cw_seq ?_; refine cw_region ?_; refine wl_m ?_; refine wl_val rfl (ex_mul_i64 rfl rfl (by omega) (by omega)) ?_; refine wl_m ?_; refine wl_val rfl (ex_add_i64 rfl rfl (by omega) (by omega)) ?_; refine wl_val rfl (ex_convF rfl Try.underlying3 Try.underlying21 (i32r (by omega) (by omega)).1 (i32r (by omega) (by omega)).2) ?_; refine wl_a ?_; refine wl_nil (nrm_then ?_); refine cw_ret (ret_then (bodyp_ret (body_ret1 rfl rfl ?_))); exact ⟨_, _, hex_c hc8 hd1 hd2, (by congr 1), hE9, hR3⟩
  ·skip
   have hb8 : isB s st.pos 123 := Classical.not_not.1 hc8; rw [if_pos hb8] at hR1; refine cw_skip (nrm_then ?_); refine cw_seq ?_; refine cw_region ?_; refine wl_m ?_; refine wl_callP1 (vs := [_]) Try.goes58 rfl (hexDigit_ok hR1 hs) rfl ?_ ?_
   ·skip
    intro pv wp hpp; obtain ⟨hpe, rfl, hpw⟩ := hpp; exact And.intro rfl ⟨_, rfl, hex_d hb8 hpe, rfl, (hE3).step hpw (fun y hy => .inl hy)⟩
   rintro _ w10 ⟨d1, hd1, rfl, hw11, hR4⟩; have hE12 := hE3.step hw11 (fun y hy => .inl hy); have hl1 := hexd_lt hd1; have hin := hexd_in hd1; refine wl_a ?_; refine wl_nil (nrm_then ?_); refine cw_seq ?_; refine cw_block ?_
   refine cw_loop (α := HxG) (⟨d1, st.pos + 1 + 1⟩) (fun x => [(5, .int .i64 (x.n : Nat))]) [(0, _), (2, _)] (fun x wr => Evo [b] w wr ∧ (HxI wr b s st a c ob x)) (fun x => s.size + 1 - x.p) ⟨rfl, trivial⟩ ⟨rfl, rfl, trivial⟩ ⟨hE12, ⟨by show st.pos + 1 + 1 ≤ _; have : st.pos + 1 < s.size := hin; omega, by show d1 ≤ _; omega, hR4, hex_e hb8 hd1⟩⟩ ?_
   rintro ⟨n, p⟩ wr13 ⟨hV14, ⟨hp9, hn9, hR9, heq⟩⟩; show CW _ _ _ _ [(5, .int .i64 (n : Nat)), (0, _), (2, _)] _
   try dsimp only at hp9
   try dsimp only at hn9
   try dsimp only at hR9
   try dsimp only at heq
   refine cw_seq ?_; refine cw_seq ?_; refine cw_region ?_; refine wl_m ?_; refine wl_call1 (vs := [_, _]) Try.goes14 rfl (take_ok hR9 hs 125 (by decide)) rfl ?_; rintro _ w15 ⟨rfl, hw16, hR5⟩; have hE17 := hV14.step hw16 (fun y hy => .inl hy); refine wl_val rfl (ex_not rfl) ?_; refine wl_nil (nrm_then ?_); refine cw_if rfl (fun hc22 => ?_) (fun hc22 => ?_)
   ·skip
    rw [if_neg hc22] at hR5; refine cw_skip (nrm_then ?_); refine cw_block ?_; refine cw_seq ?_; refine cw_region ?_; refine wl_m ?_; refine wl_val rfl (ex_mul_i64 rfl rfl (by omega) (by omega)) ?_; refine wl_m ?_; refine wl_callP1 (vs := [_]) Try.goes58 rfl (hexDigit_ok hR5 hs) rfl ?_ ?_
    ·skip
     intro pv wp hpp; obtain ⟨hpe, rfl, hpw⟩ := hpp; exact And.intro rfl ⟨_, rfl, heq.trans (hexl_err hp9 hc22 hpe), rfl, (hE17).step hpw (fun y hy => .inl hy)⟩
    rintro _ w18 ⟨d2, hd2, rfl, hw19, hR6⟩; have hE20 := hE17.step hw19 (fun y hy => .inl hy); have hl2 := hexd_lt hd2; have hin2 : p < s.size := hexd_in hd2; refine wl_val rfl (ex_add_i64 rfl rfl (by omega) (by omega)) ?_; refine wl_a ?_; refine wl_nil (nrm_then ?_); refine cw_seq ?_; refine cw_region ?_; refine wl_m ?_; refine wl_val rfl (ex_gtr rfl rfl) ?_; refine wl_nil (nrm_then ?_); refine cw_if rfl (fun hc29 => ?_) (fun hc29 => ?_)
    ·skip
     refine cw_region ?_; refine wl_callP1 (vs := [_]) Try.goes10 rfl (fail_ok 83) rfl ?_ ?_
     ·skip
      intro pv wp hpp; obtain ⟨rfl, hpw⟩ := hpp; exact And.intro rfl ⟨_, rfl, heq.trans (hexl_big hp9 hc22 hd2 (by omega)), rfl, (hE20).then hpw⟩
     intro _ _ hF; exact hF.elim
    ·skip
     refine cw_skip (nrm_block (nrm_same ?_)); refine ⟨⟨n * 16 + d2, p + 1⟩, ?_, ⟨rfl, trivial⟩, ⟨rfl, rfl, trivial⟩, hE20, ?_⟩
     · (try dsimp only); omega
     ·skip
      try dsimp only
      exact ⟨by show p + 1 ≤ _; omega, by show n * 16 + d2 ≤ _; omega, hR6, heq.trans (hexl_go hin2 hc22 hd2 (by omega))⟩
   ·skip
    have hb22 : isB s (pset st p).pos 125 := Classical.not_not.1 hc22; rw [if_pos hb22] at hR5; refine cw_exit (ex_then (ex_then (ex_here (nrm_then ?_)))); refine cw_seq ?_; refine cw_region ?_; refine wl_m ?_; refine wl_val rfl (ex_convF rfl Try.underlying3 Try.underlying21 (i32r (by omega) (by omega)).1 (i32r (by omega) (by omega)).2) ?_; refine wl_a ?_; refine wl_nil (nrm_then ?_); refine cw_ret (bodyp_ret (body_ret1 rfl rfl ?_)); exact ⟨_, _, heq.trans (hexl_end hp9 hb22), rfl, hE17, hR5⟩
end Go.Proofs.Ytljadkcojnlioaa
namespace Go.Proofs.Ytljadkcojnlioaa
open Go.Proofs Go.W Go.RowKit
set_option linter.unusedVariables false
set_option linter.unusedSimpArgs false
set_option linter.unusedSectionVars false
def encR (g : Int × Int) : List Value := [.int .i32 g.1, .int .i32 g.2]
def rcells (l : List (Int × Int)) : List Value := l.flatMap encR
theorem rcells_cons (g : Int × Int) (l : List (Int × Int)) : rcells (g :: l) = .int .i32 g.1 :: .int .i32 g.2 :: rcells l := rfl
theorem rcells_app (l m : List (Int × Int)) : rcells (l ++ m) = rcells l ++ rcells m := List.flatMap_append
theorem rcells_len : ∀ l : List (Int × Int), (rcells l).length = l.length * 2
  | [] => rfl
  | g :: l => by rw [rcells_cons, List.length_cons, List.length_cons, rcells_len l, List.length_cons]; omega
theorem rcells_get : ∀ {l : List (Int × Int)} {i : Nat} (h : i < l.length), (rcells l)[i * 2]? = some (.int .i32 l[i].1) ∧ (rcells l)[i * 2 + 1]? = some (.int .i32 l[i].2)
  | g :: l, 0, h => ⟨rfl, rfl⟩
  | g :: l, i + 1, h => by
    have := rcells_get (l := l) (i := i) (by simpa using h)
    rw [rcells_cons, show (i + 1) * 2 = i * 2 + 1 + 1 by omega]
    exact this
theorem rcells_one : ∀ l : List (Int × Int), AllOne (rcells l)
  | [] => trivial
  | g :: l => ⟨rfl, rfl, rcells_one l⟩
section
variable {w : World} {e : TypeId} {a : Option Addr} {n c : Nat} {l : List (Int × Int)} {ob : Option Nat}
theorem own_rn (h : OwnS w e 2 a n c (rcells l) ob) : n = l.length := by have := h.length; rw [rcells_len] at this; omega
theorem own_elem (h : OwnS w e 2 a n c (rcells l) ob) {i : Nat} (hi : i < l.length) : ∃ g, ob = some g ∧ a = some ⟨g, 0, none⟩ ∧ CellsAt w g (0 + i * 2) (encR l[i]) := by
  have hn := own_rn h
  obtain ⟨g, hg, ha, hc⟩ := h.cells (by omega)
  refine ⟨g, hg, ha, fun j v hj => ?_⟩
  obtain ⟨h0, h1⟩ := rcells_get hi
  match j, hj with
  | 0, hj => cases hj; have := hc _ _ h0; simpa using this
  | 1, hj => cases hj; have := hc _ _ h1; simpa [Nat.add_assoc] using this
  | j + 2, hj => cases hj
theorem own_rz (h : OwnS w e 2 a n c (rcells l) ob) : (a = none ∧ n = 0 ∧ l = [] ∧ ob = none) ∨ ∃ g, a = some ⟨g, 0, none⟩ ∧ ob = some g := by
  have hn := own_rn h
  rcases h.2 with ⟨h1, h2, h3⟩ | ⟨g, cap, cur, hg, hv, _⟩
  · cases h1; exact .inl ⟨rfl, rfl, List.length_eq_zero_iff.1 hn.symm, h3⟩
  · cases hv; exact .inr ⟨g, rfl, hg⟩
end
theorem flat_rcells (l : List (Int × Int)) : Sort.flatK encR 2 l.toArray = (rcells l).toArray := by
  apply Array.ext
  · simp [rcells_len]
  · intro t h1 h2
    have h3 : t < l.length * 2 := by simpa [rcells_len] using h2
    have h4 := Sort.get_flatK encR 2 l.toArray t (by simpa using h3)
    rw [getElem!_pos _ t h1] at h4
    rw [h4]
    have h5 : t / 2 < l.length := by omega
    have h6 : (l.toArray)[t / 2]! = l[t / 2] := by simp [h5]
    rw [h6]
    obtain ⟨g0, g1⟩ := rcells_get h5
    rcases Nat.mod_two_eq_zero_or_one t with hm | hm <;> rw [hm]
    · rw [show t / 2 * 2 = t by omega] at g0
      show (Value.int .i32 l[t / 2].1) = _
      simp only [List.getElem_toArray]
      exact (Option.some.inj ((List.getElem?_eq_getElem (by rw [rcells_len]; exact h3)).symm.trans g0)).symm
    · rw [show t / 2 * 2 + 1 = t by omega] at g1
      show (Value.int .i32 l[t / 2].2) = _
      simp only [List.getElem_toArray]
      exact (Option.some.inj ((List.getElem?_eq_getElem (by rw [rcells_len]; exact h3)).symm.trans g1)).symm
theorem evo_rowK (w : World) (g n : Nat) (d : Array Value) (os : Array Obj) : Evo [g] w (Sort.grow (Sort.putRow id (Sort.ahead w n) g 0 d) os) := by
  refine ⟨rfl, rfl, rfl, ?_, fun b hb hx => ?_⟩
  · simp [Sort.grow, Sort.putRow, Sort.mapBlock, Sort.ahead]
  · have hne : g ≠ b := fun e => hx (by simp [e])
    simp only [Sort.grow, Sort.putRow, Sort.mapBlock, Sort.ahead]
    rw [Array.getElem?_append_left (by simpa using hb), Array.getElem?_modify, if_neg hne]
theorem row_blkK {w : World} {g : Nat} {cur : Array Value} {e : TypeId} (hb : w.heap[g]? = some (.cells cur e (0, 0))) (n : Nat) (d : Array Value) (os : Array Obj) :
    (Sort.grow (Sort.putRow id (Sort.ahead w n) g 0 d) os).heap[g]? = some (.cells (Sort.putCells id 0 d cur) e (0, 0)) := by
  have hlt := blk_lt hb
  simp only [Sort.grow, Sort.putRow, Sort.mapBlock, Sort.ahead]
  rw [Array.getElem?_append_left (by simpa using hlt), Array.getElem?_modify, if_pos rfl, hb]
  rfl
theorem putCells_takeK (cur : Array Value) (ds : List Value) (hc : ds.length ≤ cur.size) : (Sort.putCells id 0 ds.toArray cur).toList.take ds.length = ds := by
  apply List.ext_getElem?
  intro k
  by_cases hk : k < ds.length
  · rw [List.getElem?_take, if_pos hk]
    simp only [Sort.putCells, Array.getElem?_toList, Array.getElem?_mapIdx, List.getElem?_map]
    have h1 : k < cur.size := by omega
    simp [h1, hk]
  · rw [List.getElem?_eq_none (by simp; omega), List.getElem?_eq_none (by omega)]
theorem own_laidK {w : World} {e : TypeId} {g n c sz : Nat} {xs ds : List Value} (h : OwnS w e sz (some ⟨g, 0, none⟩) n c xs (some g)) (hd : ds.length = n * sz) (q : Nat) (os : Array Obj) :
    OwnS (Sort.grow (Sort.putRow id (Sort.ahead w q) g 0 ds.toArray) os) e sz (some ⟨g, 0, none⟩) n c ds (some g) := by
  refine ⟨hd, ?_⟩
  rcases h.2 with ⟨h1, _⟩ | ⟨g', cap, cur, hg, hv, hb, hn, hc, hs, ht⟩
  · cases h1
  · cases hg; cases hv
    have hle : n * sz ≤ c * sz := Nat.mul_le_mul_right sz hn
    refine .inr ⟨g, c, _, rfl, rfl, row_blkK hb q ds.toArray os, hn, hc, by simpa [Sort.putCells] using hs, ?_⟩
    rw [← hd]
    exact putCells_takeK cur ds (by omega)
theorem own_holdsK {w : World} {e : TypeId} {g n c : Nat} {l : List (Int × Int)} (h : OwnS w e 2 (some ⟨g, 0, none⟩) n c (rcells l) (some g)) : Sort.HoldsK encR 2 w g 0 l.toArray := fun j hj => by
  rw [flat_rcells] at hj ⊢
  have hj' : j < (rcells l).length := by simpa using hj
  have hl := h.length
  rcases h.2 with ⟨h1, _⟩ | ⟨g', cap, cur, hg, hv, hb, hn, hc, hs, ht⟩
  · cases h1
  · cases hg; cases hv
    constructor
    · refine cell_blk hb ?_
      have h1 : (cur.toList.take (n * 2))[j]? = some (rcells l)[j] := by rw [ht]; exact List.getElem?_eq_getElem hj'
      rw [List.getElem?_take, if_pos (by omega)] at h1
      rw [Nat.zero_add]
      simpa [hj'] using h1
    · simp [World.frozen?, hb]
end Go.Proofs.Ytljadkcojnlioaa
