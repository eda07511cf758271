/- A layer of rules of its own over the walk: frames are known in part (a list of slots with their values), each operation is one lemma. Nothing here speaks of a program. -/
import Derived.WalkKit
import Derived.OrdersHeld
import Derived.Deep.LoopGhost
import Derived.Deep.Quiet
import Derived.KernelRfl
namespace Go.W
set_option linter.unusedSimpArgs false
set_option linter.unusedVariables false

/-! ### Frames known in part -/
abbrev Env := List (Nat × Value)

def Env.get : Env → Nat → Option Value
  | [], _ => none
  | (k, v) :: r, t => cond (Nat.beq k t) (some v) (Env.get r t)

def Env.ev (σ : Env) : Operand → Option Value
  | .tmp t => σ.get t
  | .const v => some v
  | .global g => some (.pointer (some ⟨g, 0, none⟩))
  | .func f => some (.func (.func f) #[] #[])

/-- How many slots; what is deferred. -/
abbrev NN := Nat × List Deferred
def Fits (N : NN) (σ : Env) (a : Act) : Prop := a.tmps.size = N.1 ∧ a.defers = N.2 ∧ ∀ t v, σ.get t = some v → a.tmps.getD t undef = v

def Agrees (σ : Env) (ρ : Operand → Value) : Prop := ∀ x v, σ.ev x = some v → ρ x = v

theorem Fits.agrees {N : NN} {σ : Env} {a : Act} (h : Fits N σ a) : Agrees σ a.eval := by
  intro x v hx
  cases x with
  | tmp t => exact h.2.2 t v hx
  | const u => simp only [Env.ev, Option.some.injEq] at hx; exact hx
  | global g => simp only [Env.ev, Option.some.injEq] at hx; exact hx
  | func f => simp only [Env.ev, Option.some.injEq] at hx; exact hx

theorem Fits.put {N : NN} {σ : Env} {a : Act} (h : Fits N σ a) {d : Nat} (hd : d < N.1) (v : Value) : Fits N ((d, v) :: σ) (a.put (some d) v) := by
  refine ⟨by simp [Act.put, h.1], h.2.1, fun t u hu => ?_⟩
  simp only [Env.get] at hu
  cases hk : Nat.beq d t with
  | true =>
    rw [hk] at hu
    have : d = t := Nat.eq_of_beq_eq_true hk
    subst this
    simp only [cond_true, Option.some.injEq] at hu
    have hs : d < a.tmps.size := by rw [h.1]; exact hd
    simp [Act.put, hs, hu]
  | false =>
    rw [hk] at hu
    have hne : d ≠ t := Nat.ne_of_beq_eq_false hk
    have := h.2.2 t u hu
    simp only [Act.put, Array.getD_eq_getD_getElem?, Array.getElem?_setIfInBounds_ne hne] at this ⊢
    exact this

def Sub : Env → Env → Prop
  | [], _ => True
  | (k, v) :: r, σ => σ.get k = some v ∧ Sub r σ

theorem Sub.get {S σ : Env} (h : Sub S σ) : ∀ t v, S.get t = some v → σ.get t = some v := by
  induction S with
  | nil => intro t v hv; cases hv
  | cons p r ih =>
    obtain ⟨k, u⟩ := p
    intro t v hv
    simp only [Env.get] at hv
    cases hk : Nat.beq k t with
    | true =>
      rw [hk] at hv
      have : k = t := Nat.eq_of_beq_eq_true hk
      subst this
      simp only [cond_true, Option.some.injEq] at hv
      subst hv
      exact h.1
    | false => rw [hk] at hv; exact ih h.2 t v hv

theorem Fits.sub {N : NN} {S σ : Env} {a : Act} (hs : Sub S σ) (h : Fits N σ a) : Fits N S a :=
  ⟨h.1, h.2.1, fun t v hv => h.2.2 t v (hs.get t v hv)⟩

theorem Env.get_append {A B : Env} : ∀ t v, (A ++ B).get t = some v → A.get t = some v ∨ (A.get t = none ∧ B.get t = some v) := by
  induction A with
  | nil => intro t v h; exact .inr ⟨rfl, h⟩
  | cons p r ih =>
    obtain ⟨k, u⟩ := p
    intro t v h
    simp only [List.cons_append, Env.get] at h ⊢
    cases hk : Nat.beq k t with
    | true => rw [hk] at h; exact .inl h
    | false => rw [hk] at h; exact ih t v h

theorem Fits.app {N : NN} {A B σ τ : Env} {a : Act} (hA : Sub A σ) (hB : Sub B τ) (h : Fits N σ a) (h' : Fits N τ a) : Fits N (A ++ B) a :=
  ⟨h.1, h.2.1, fun t v hv => by
    rcases Env.get_append t v hv with h1 | ⟨_, h1⟩
    · exact h.2.2 t v (hA.get t v h1)
    · exact h'.2.2 t v (hB.get t v h1)⟩

/-! ### Posts -/
/-- What holds behind a way out; the number of slots and the frame's deferred calls are told along. -/
abbrev Post := Exit → NN → Env → World → Prop

def toQ (R : Post) : Exit → Act → World → Prop
  | .panic c, a, w => ∃ N : NN, a.defers = N.2 ∧ R (.panic c) N [] w
  | .outgrown, _, w => ∃ N : NN, R .outgrown N [] w
  | .normal, a, w => ∃ N σ, Fits N σ a ∧ R .normal N σ w
  | .exit i, a, w => ∃ N σ, Fits N σ a ∧ R (.exit i) N σ w
  | .goto l, a, w => ∃ N σ, Fits N σ a ∧ R (.goto l) N σ w
  | .ret, a, w => ∃ N σ, Fits N σ a ∧ R .ret N σ w

def CW (P : Program) (N : NN) (c : Code) (R : Post) (σ : Env) (w : World) : Prop := ∀ a, Fits N σ a → c.wp P (toQ R) a w

def thenR (K : NN → Env → World → Prop) (R : Post) : Post
  | .normal, N, σ, w => K N σ w
  | .exit i, N, σ, w => R (.exit i) N σ w
  | .goto l, N, σ, w => R (.goto l) N σ w
  | .ret, N, σ, w => R .ret N σ w
  | .panic c, N, σ, w => R (.panic c) N σ w
  | .outgrown, N, σ, w => R .outgrown N σ w

def blockR (id : Nat) (R : Post) : Post
  | .exit i, N, σ, w => cond (Nat.beq i id) (R .normal N σ w) (R (.exit i) N σ w)
  | .normal, N, σ, w => R .normal N σ w
  | .goto l, N, σ, w => R (.goto l) N σ w
  | .ret, N, σ, w => R .ret N σ w
  | .panic c, N, σ, w => R (.panic c) N σ w
  | .outgrown, N, σ, w => R .outgrown N σ w

section
variable {P : Program} {N : NN} {R : Post} {σ : Env} {w : World}

theorem cw_seq {x y : Code} (h : CW P N x (thenR (fun N σ w => CW P N y R σ w) R) σ w) : CW P N (.seq x y) R σ w := by
  intro a ha
  refine wp_seq (wp_mono (h a ha) ?_)
  intro e a' w' hq
  cases e with
  | normal => obtain ⟨N', σ', hf, hk⟩ := hq; exact hk a' hf
  | exit i => exact hq
  | goto l => exact hq
  | ret => exact hq
  | panic c => exact hq
  | outgrown => exact hq

theorem cw_block {id : Nat} {c : Code} (h : CW P N c (blockR id R) σ w) : CW P N (.block id c) R σ w := by
  intro a ha
  refine wp_block (wp_mono (h a ha) ?_)
  intro e a' w' hq
  cases e with
  | normal => exact hq
  | exit i =>
    obtain ⟨N', σ', hf, hk⟩ := hq
    simp only [blockR] at hk
    simp only [Exit.inBlock]
    cases hb : Nat.beq i id with
    | true =>
      rw [hb] at hk
      rw [if_pos (Nat.eq_of_beq_eq_true hb)]
      exact ⟨N', σ', hf, hk⟩
    | false =>
      rw [hb] at hk
      rw [if_neg (Nat.ne_of_beq_eq_false hb)]
      exact ⟨N', σ', hf, hk⟩
  | goto l => exact hq
  | ret => exact hq
  | panic c => exact hq
  | outgrown => exact hq

theorem cw_skip (h : R .normal N σ w) : CW P N .skip R σ w := fun _ ha => wp_skip ⟨N, σ, ha, h⟩
theorem cw_label {l : Nat} (h : R .normal N σ w) : CW P N (.label l) R σ w := fun _ ha => wp_label ⟨N, σ, ha, h⟩
theorem cw_exit {i : Nat} (h : R (.exit i) N σ w) : CW P N (.exit i) R σ w := fun _ ha => wp_exit ⟨N, σ, ha, h⟩
theorem cw_goto {l : Nat} (h : R (.goto l) N σ w) : CW P N (.goto l) R σ w := fun _ ha => wp_goto ⟨N, σ, ha, h⟩
theorem cw_ret (h : R .ret N σ w) : CW P N .ret R σ w := fun _ ha => wp_ret ⟨N, σ, ha, h⟩

theorem cw_if {c : Operand} {x y : Code} {p : Prop} [Decidable p] (hc : σ.ev c = some (.bool (decide p))) (ht : p → CW P N x R σ w) (hf : ¬ p → CW P N y R σ w) : CW P N (.cond c x y) R σ w := by
  intro a ha
  refine wp_cond_split (ha.agrees c _ hc) (fun h => ht (of_decide_eq_true h) a ha) (fun h => hf (of_decide_eq_false h) a ha)

theorem cw_ifb {c : Operand} {x y : Code} {b : Bool} (hc : σ.ev c = some (.bool b)) (ht : b = true → CW P N x R σ w) (hf : b = false → CW P N y R σ w) : CW P N (.cond c x y) R σ w := by
  intro a ha
  exact wp_cond_split (ha.agrees c _ hc) (fun h => ht h a ha) (fun h => hf h a ha)

theorem cw_true {c : Operand} {x y : Code} (hc : σ.ev c = some (.bool true)) (h : CW P N x R σ w) : CW P N (.cond c x y) R σ w :=
  fun a ha => wp_cond_true (ha.agrees c _ hc) (h a ha)
theorem cw_false {c : Operand} {x y : Code} (hc : σ.ev c = some (.bool false)) (h : CW P N y R σ w) : CW P N (.cond c x y) R σ w :=
  fun a ha => wp_cond_false (ha.agrees c _ hc) (h a ha)

/-- Fewer slots are known. -/
theorem cw_sub {c : Code} (S : Env) (hs : Sub S σ) (h : CW P N c R S w) : CW P N c R σ w := fun a ha => h a (ha.sub hs)

theorem cw_loop {c : Code} {α : Type} (x0 : α) (M : α → Env) (C : Env) (Φ : α → World → Prop) (μ : α → Nat) (hM : Sub (M x0) σ) (hC : Sub C σ) (h0 : Φ x0 w)
    (round : ∀ x w, Φ x w → CW P N c (thenR (fun N' σ' w' => N' = N ∧ ∃ x', μ x' < μ x ∧ Sub (M x') σ' ∧ Sub C σ' ∧ Φ x' w') R) (M x ++ C) w) : CW P N (.loop c) R σ w := by
  intro a ha
  refine wp_loop_ghost (fun n a w => ∃ x, μ x = n ∧ Fits N (M x ++ C) a ∧ Φ x w) (μ x0) ⟨x0, rfl, Fits.app hM hC ha ha, h0⟩ ?_
  rintro n a w ⟨x, rfl, hf, hx⟩
  refine wp_mono (round x w hx a hf) ?_
  intro e a' w' hq
  cases e with
  | normal =>
    obtain ⟨N', σ', hf', rfl, x', hlt, hM', hC', hΦ⟩ := hq
    exact ⟨μ x', hlt, x', rfl, Fits.app hM' hC' hf' hf', hΦ⟩
  | exit i => exact hq
  | goto l => exact hq
  | ret => exact hq
  | panic c => exact hq
  | outgrown => exact hq

/-! ### Ways out -/
theorem nrm_then {K : NN → Env → World → Prop} (h : K N σ w) : thenR K R .normal N σ w := h
theorem nrm_same {K : Env → World → Prop} (h : K σ w) : thenR (fun N' σ' w' => N' = N ∧ K σ' w') R .normal N σ w := ⟨rfl, h⟩
theorem nrm_block {id : Nat} (h : R .normal N σ w) : blockR id R .normal N σ w := h
theorem ret_then {K : NN → Env → World → Prop} (h : R .ret N σ w) : thenR K R .ret N σ w := h
theorem ret_block {id : Nat} (h : R .ret N σ w) : blockR id R .ret N σ w := h
theorem ex_then {K : NN → Env → World → Prop} {i : Nat} (h : R (.exit i) N σ w) : thenR K R (.exit i) N σ w := h
theorem ex_here {i : Nat} (h : R .normal N σ w) : blockR i R (.exit i) N σ w := by
  show cond (Nat.beq i i) _ _
  rw [show Nat.beq i i = true from Nat.beq_refl i]
  exact h
theorem ex_past {i id : Nat} (hne : Nat.beq i id = false) (h : R (.exit i) N σ w) : blockR id R (.exit i) N σ w := by
  show cond (Nat.beq i id) _ _
  rw [hne]
  exact h
end

/-! ### A function's body -/
section
variable {P : Program} {σ : Env} {w : World}

/-- What a call hands back, and the world then. -/
def Ret (Φ : Value → World → Prop) : Ending → World → Prop := fun e w' => ∃ v, e = .returned v ∧ Φ v w'

def bodyR (P : Program) (fn : Func) (E : Ending → World → Prop) : Post
  | .normal, N, σ, w => N.2 = [] ∧ ∀ a, Fits (a.tmps.size, a.defers) σ a → ∃ v, (results fn a.tmps).run P w = .ok v w ∧ E (.returned v) w
  | .ret, N, σ, w => N.2 = [] ∧ ∀ a, Fits (a.tmps.size, a.defers) σ a → ∃ v, (results fn a.tmps).run P w = .ok v w ∧ E (.returned v) w
  | .panic chain, N, _, w => N.2 = [] ∧ E (.panicked chain) w
  | .outgrown, _, _, w => E .outgrown w
  | .exit _, _, _, _ => False
  | .goto _, _, _, _ => False

def paramEnv (k : Nat) : List Value → Env
  | [] => []
  | v :: r => (k, v) :: paramEnv (k + 1) r

theorem paramEnv_get : ∀ (l : List Value) (k t : Nat) (v : Value), (paramEnv k l).get t = some v → k ≤ t ∧ l[t - k]? = some v := by
  intro l
  induction l with
  | nil => intro k t v h; cases h
  | cons u r ih =>
    intro k t v h
    simp only [paramEnv, Env.get] at h
    cases hb : Nat.beq k t with
    | true =>
      rw [hb] at h
      have : k = t := Nat.eq_of_beq_eq_true hb
      subst this
      simp only [cond_true, Option.some.injEq] at h
      exact ⟨Nat.le_refl _, by simp [h]⟩
    | false =>
      rw [hb] at h
      have hne : k ≠ t := Nat.ne_of_beq_eq_false hb
      obtain ⟨h1, h2⟩ := ih (k + 1) t v h
      refine ⟨by omega, ?_⟩
      rw [show t - k = (t - (k + 1)) + 1 from by omega]
      simpa using h2

theorem calls_of_cw {f : FuncId} {fn : Func} {c : Code} {args : List Value} {E : Ending → World → Prop} {N : Nat}
    (hf : P.funcs[f]? = some fn) (hb : fn.body = some c) (hN : fn.ntmps = N) (hle' : Nat.ble args.length N = true)
    (h : CW P (N, []) c (bodyR P fn E) (paramEnv 0 args) w) : Calls P f args.toArray w E := by
  have hle : args.length ≤ N := Nat.le_of_ble_eq_true hle'
  refine calls_of_wp hf hb (wp_mono (h _ ⟨?_, rfl, ?_⟩) ?_)
  · simp [hN]; omega
  · intro t v hv
    obtain ⟨_, h2⟩ := paramEnv_get args 0 t v hv
    simp only [Nat.sub_zero] at h2
    have hlt : t < args.length := (List.getElem?_eq_some_iff.1 h2).1
    have h3 : args[t] = v := by rw [List.getElem?_eq_getElem hlt] at h2; exact Option.some.inj h2
    simp [Array.getElem?_append, hlt, h3]
  · intro e a' w' hq
    cases e with
    | normal => obtain ⟨N', σ', hf', hn, hk⟩ := hq; obtain ⟨v, h1, h2⟩ := hk a' (by rw [hf'.1, hf'.2.1]; exact hf'); exact ⟨hf'.2.1.trans hn, v, h1, h2⟩
    | ret => obtain ⟨N', σ', hf', hn, hk⟩ := hq; obtain ⟨v, h1, h2⟩ := hk a' (by rw [hf'.1, hf'.2.1]; exact hf'); exact ⟨hf'.2.1.trans hn, v, h1, h2⟩
    | panic ch => obtain ⟨N', hd, hn, hk⟩ := hq; exact ⟨hd.trans hn, hk⟩
    | outgrown => obtain ⟨_, hk⟩ := hq; exact hk
    | exit i => obtain ⟨_, _, _, hk⟩ := hq; exact hk
    | goto l => obtain ⟨_, _, _, hk⟩ := hq; exact hk

theorem body_ret0 {n : Nat} {fn : Func} {Φ : Value → World → Prop} (hr : fn.results = #[]) (h : Φ (.tuple #[]) w) : bodyR P fn (Ret Φ) .ret (n, []) σ w :=
  ⟨rfl, fun _ _ => ⟨.tuple #[], results_none hr _ _ _, _, rfl, h⟩⟩
theorem body_end0 {n : Nat} {fn : Func} {Φ : Value → World → Prop} (hr : fn.results = #[]) (h : Φ (.tuple #[]) w) : bodyR P fn (Ret Φ) .normal (n, []) σ w :=
  ⟨rfl, fun _ _ => ⟨.tuple #[], results_none hr _ _ _, _, rfl, h⟩⟩
theorem body_ret1 {n : Nat} {fn : Func} {t : Tmp} {v : Value} {Φ : Value → World → Prop} (hr : fn.results = #[.tmp t]) (hv : σ.get t = some v) (h : Φ v w) : bodyR P fn (Ret Φ) .ret (n, []) σ w :=
  ⟨rfl, fun a ha => ⟨v, by rw [results_tmp hr, ha.2.2 t v hv], _, rfl, h⟩⟩
theorem body_ret2 {n : Nat} {fn : Func} {t u : Tmp} {v v' : Value} {Φ : Value → World → Prop} (hr : fn.results = #[.tmp t, .tmp u]) (hv : σ.get t = some v) (hv' : σ.get u = some v') (h : Φ (.tuple #[v, v']) w) : bodyR P fn (Ret Φ) .ret (n, []) σ w :=
  ⟨rfl, fun a ha => ⟨.tuple #[v, v'], by rw [results_tmp2 hr, ha.2.2 t v hv, ha.2.2 u v' hv'], _, rfl, h⟩⟩
end

/-! ### Worlds that keep what was there, but for some blocks -/
structure Evo (X : List Nat) (w w' : World) : Prop where
  os : w'.os = w.os
  tape : w'.tape = w.tape
  output : w'.output = w.output
  size : w.heap.size ≤ w'.heap.size
  block : ∀ b, b < w.heap.size → b ∉ X → w'.heap[b]? = w.heap[b]?

theorem Evo.refl (X : List Nat) (w : World) : Evo X w w := ⟨rfl, rfl, rfl, Nat.le_refl _, fun _ _ _ => rfl⟩
theorem Evo.trans {X : List Nat} {a b c : World} (h : Evo X a b) (k : Evo X b c) : Evo X a c :=
  ⟨k.os.trans h.os, k.tape.trans h.tape, k.output.trans h.output, Nat.le_trans h.size k.size, fun i hi hx => (k.block i (Nat.lt_of_lt_of_le hi h.size) hx).trans (h.block i hi hx)⟩
theorem Evo.mono {X Y : List Nat} {w w' : World} (h : Evo X w w') (hxy : ∀ b, b ∈ X → b ∈ Y) : Evo Y w w' :=
  ⟨h.os, h.tape, h.output, h.size, fun b hb hy => h.block b hb (fun hx => hy (hxy b hx))⟩
theorem Evo.any {w w' : World} (h : Evo [] w w') (Y : List Nat) : Evo Y w w' := h.mono (fun _ hb => by cases hb)
/-- Blocks that are newer than the first world need no mention. -/
theorem Evo.step {X Y : List Nat} {a b c : World} (h : Evo X a b) (k : Evo Y b c) (hy : ∀ y, y ∈ Y → y ∈ X ∨ a.heap.size ≤ y) : Evo X a c :=
  ⟨k.os.trans h.os, k.tape.trans h.tape, k.output.trans h.output, Nat.le_trans h.size k.size, fun i hi hx =>
    (k.block i (Nat.lt_of_lt_of_le hi h.size) (fun hiy => by rcases hy i hiy with h1 | h1 <;> first | exact hx h1 | omega)).trans (h.block i hi hx)⟩
theorem Evo.then {a b c : World} {X : List Nat} (h : Evo X a b) (k : Evo [] b c) : Evo X a c := h.step k (fun _ hy => by cases hy)
theorem Evo.blk {X : List Nat} {w w' : World} (h : Evo X w w') {b : Nat} {o : Obj} (hb : w.heap[b]? = some o) (hx : b ∉ X) : w'.heap[b]? = some o := by
  rw [h.block b (Array.getElem?_eq_some_iff.1 hb).1 hx]; exact hb
theorem Evo.blk0 {w w' : World} (h : Evo [] w w') {b : Nat} {o : Obj} (hb : w.heap[b]? = some o) : w'.heap[b]? = some o := h.blk hb (fun h => by cases h)
theorem Evo.cell {X : List Nat} {w w' : World} (h : Evo X w w') {a : Addr} {v : Value} (hc : w.cell? a = some v) (hx : a.block ∉ X) : w'.cell? a = some v :=
  (World.cell?_of_block (h.block a.block (World.block_lt_of_cell? w a hc) hx)).trans hc
theorem blk_lt {w : World} {b : Nat} {o : Obj} (hb : w.heap[b]? = some o) : b < w.heap.size := (Array.getElem?_eq_some_iff.1 hb).1
theorem Evo.below {w w' : World} (h : Evo [] w w') : RowKit.Below w.heap.size w w' := ⟨h.os, h.tape, h.output, h.size, fun k hk => h.block k hk (fun h => by cases h)⟩
theorem Evo.of_grown {w w' : World} {row : Option Nat} (h : w.grownBy w' row) : Evo row.toList w w' :=
  ⟨h.os, h.tape, h.output, h.size, fun b hb hx => h.block b hb (fun e => hx (by simp [← e]))⟩
theorem evo_drew (w : World) : Evo [] w { w with drawn := w.drawn + 1 } := ⟨rfl, rfl, rfl, Nat.le_refl _, fun _ _ _ => rfl⟩
theorem evo_alloc (w : World) (o : Obj) : Evo [] w (w.alloc o) := ⟨rfl, rfl, rfl, by simp, fun k hk _ => RowKit.Below.heap_alloc w o k hk⟩
theorem evo_setCell (w : World) (a : Addr) (v : Value) : Evo [a.block] w (w.setCell a v) :=
  ⟨rfl, rfl, rfl, by simp, fun k _ hx => RowKit.Below.heap_setCell _ _ _ _ (fun e => hx (by simp [e]))⟩

/-! ### Facts on types, closed -/
def aggB (P : Program) (t : TypeId) : Option Bool := (P.underlying t).map fun | .struct _ | .array _ _ => true | _ => false
def sizeB (P : Program) (t : TypeId) : Option Nat := (P.info? t).map (·.size)
def fieldB (P : Program) (s : TypeId) (i : Nat) : Option Nat :=
  match P.underlying s with
  | some (.struct fs) => match fs[i]? with
    | some f => match P.info? f.type with
      | some n => if n.size = 0 then none else some f.offset
      | none => none
    | none => none
  | _ => none
def elemB (P : Program) (t : TypeId) : Option Nat :=
  match P.underlying t with
  | some (.slice e) => (P.info? e).map (·.size)
  | _ => none
/-- A call of function f goes into its body. -/
def Goes (P : Program) (f : FuncId) : Prop := ∃ fn, P.funcs[f]? = some fn ∧ (fn.name == "runtime.NumGoroutine") = false ∧ fn.body.isNone = false

/-! ### One operation -/
/-- Operation o, in a frame of which σ is known, yields r and leaves the world w'. -/
def Ex (P : Program) (σ : Env) (o : Oper) (w : World) (r : Value) (w' : World) : Prop := ∀ ρ, Agrees σ ρ → (execOp ρ o).run P w = .ok (.value r) w'
def ExS (P : Program) (σ : Env) (o : Oper) (w : World) (w' : World) : Prop := ∀ ρ, Agrees σ ρ → (execOp ρ o).run P w = .ok .skip w'

def WL (P : Program) (N : NN) (ops : Array Oper) (R : Post) (l : List Oper) (σ : Env) (w : World) : Prop := ∀ a, Fits N σ a → wpList P ops (toQ R) l a w

section
variable {P : Program} {N : NN} {R : Post} {σ : Env} {w w' : World} {ops : Array Oper} {rest : List Oper} {d : Nat} {op : Op} {T : TypeId} {pos : String} {after : Array Edge}

theorem cw_region {id : Nat} {l : List Oper} (h : WL P N l.toArray R l σ w) : CW P N (.region id l.toArray false) R σ w := fun a ha => wp_region_lit (h a ha)

theorem wl_nil (h : R .normal N σ w) : WL P N ops R [] σ w := fun _ ha => wpList_nil ⟨N, σ, ha, h⟩

theorem wl_val {r : Value} (hd : Nat.blt d N.1 = true) (hx : Ex P σ ⟨some d, op, T, pos, after, none⟩ w r w') (h : WL P N ops R rest ((d, r) :: σ) w') :
    WL P N ops R (⟨some d, op, T, pos, after, none⟩ :: rest) σ w := fun a ha => wpList_plain rfl fun K hK => by
  unfold Oper.wp
  rw [hx a.eval ha.agrees]
  exact hK _ _ (h _ (ha.put (of_decide_eq_true (by simpa using hd)) r))

theorem wl_skip (hx : ExS P σ ⟨none, op, T, pos, after, none⟩ w w') (h : WL P N ops R rest σ w') :
    WL P N ops R (⟨none, op, T, pos, after, none⟩ :: rest) σ w := fun a ha => wpList_plain rfl fun K hK => by
  unfold Oper.wp
  rw [hx a.eval ha.agrees]
  exact hK _ _ (h _ ha)

/-- A guarded operation that is carried out. -/
theorem wl_go {dst : Option Nat} {j : Nat} {pol : Bool} {oj : Oper} {t : Nat} (hj : ops[j]? = some oj) (ht : oj.dst = some t) (hv : σ.get t = some (.bool pol)) (hN : Nat.blt t N.1 = true)
    (h : WL P N ops R (⟨dst, op, T, pos, after, none⟩ :: rest) σ w) : WL P N ops R (⟨dst, op, T, pos, after, some (j, pol)⟩ :: rest) σ w := fun a ha => by
  have h1 := h a ha
  have hg : Region.wanted (⟨dst, op, T, pos, after, some (j, pol)⟩ : Oper) (yielded ops a.tmps) = true := by
    have hs : t < a.tmps.size := by rw [ha.1]; exact of_decide_eq_true (by simpa using hN)
    have := ha.2.2 t _ hv
    simp only [Array.getD_eq_getD_getElem?, Array.getElem?_eq_getElem hs, Option.getD_some] at this
    simp [Region.wanted, yielded, hj, ht, Array.getElem?_eq_getElem hs, this]
  unfold wpList at h1 ⊢
  rw [if_pos hg]
  rw [if_pos (by simp [Region.wanted])] at h1
  exact h1
/-- A guarded operation that is passed over. -/
theorem wl_no {j : Nat} {pol b : Bool} {oj : Oper} {t : Nat} (hj : ops[j]? = some oj) (ht : oj.dst = some t) (hv : σ.get t = some (.bool b)) (hb : b = !pol) (hN : Nat.blt t N.1 = true) (hd : Nat.blt d N.1 = true)
    (h : WL P N ops R rest ((d, undef) :: σ) w) : WL P N ops R (⟨some d, op, T, pos, after, some (j, pol)⟩ :: rest) σ w := fun a ha => by
  have hg : Region.wanted (⟨some d, op, T, pos, after, some (j, pol)⟩ : Oper) (yielded ops a.tmps) = false := by
    have hs : t < a.tmps.size := by rw [ha.1]; exact of_decide_eq_true (by simpa using hN)
    have := ha.2.2 t _ hv
    simp only [Array.getD_eq_getD_getElem?, Array.getElem?_eq_getElem hs, Option.getD_some] at this
    subst hb
    cases pol <;> simp [Region.wanted, yielded, hj, ht, Array.getElem?_eq_getElem hs, this]
  unfold wpList
  rw [if_neg (by rw [hg]; simp)]
  exact h _ (ha.put (of_decide_eq_true (by simpa using hd)) _)

/-- A slot's Bool is looked at. -/
theorem wl_split {l : List Oper} {t : Nat} {p : Prop} [Decidable p] (hv : σ.get t = some (.bool (decide p))) (ht : p → WL P N ops R l ((t, .bool true) :: σ) w) (hf : ¬ p → WL P N ops R l ((t, .bool false) :: σ) w) : WL P N ops R l σ w := by
  intro a ha
  by_cases h : p
  · refine ht h a ⟨ha.1, ha.2.1, fun u v hu => ?_⟩
    simp only [Env.get] at hu
    cases hb : Nat.beq t u with
    | true =>
      rw [hb] at hu
      have : t = u := Nat.eq_of_beq_eq_true hb
      subst this
      simp only [cond_true, Option.some.injEq] at hu
      rw [← hu, ha.2.2 t _ hv, decide_eq_true h]
    | false => rw [hb] at hu; exact ha.2.2 u v hu
  · refine hf h a ⟨ha.1, ha.2.1, fun u v hu => ?_⟩
    simp only [Env.get] at hu
    cases hb : Nat.beq t u with
    | true =>
      rw [hb] at hu
      have : t = u := Nat.eq_of_beq_eq_true hb
      subst this
      simp only [cond_true, Option.some.injEq] at hu
      rw [← hu, ha.2.2 t _ hv, decide_eq_false h]
    | false => rw [hb] at hu; exact ha.2.2 u v hu
theorem wl_splitb {l : List Oper} {t : Nat} {b : Bool} (hv : σ.get t = some (.bool b)) (ht : b = true → WL P N ops R l ((t, .bool true) :: σ) w) (hf : b = false → WL P N ops R l ((t, .bool false) :: σ) w) : WL P N ops R l σ w := by
  have hv' : σ.get t = some (.bool (decide (b = true))) := by rw [hv]; cases b <;> rfl
  exact wl_split hv' ht (fun h => hf (by simpa using h))

/-- A call of a Go function by its contract. -/
theorem wl_call {dst : Option Nat} {f : FuncId} {xs : Array Operand} {ats : Array TypeId} {vs : List Value} {Φ : Value → World → Prop} (hgo : Goes P f) (hxs : xs.toList.map σ.ev = vs.map some)
    (hc : Calls P f vs.toArray w (Ret Φ)) (hd : ∀ k, dst = some k → Nat.blt k N.1 = true)
    (h : ∀ v w', Φ v w' → WL P N ops R rest (match dst with | some k => (k, v) :: σ | none => σ) w') :
    WL P N ops R (⟨dst, .call ⟨.value (.func f), xs, ats⟩, T, pos, after, none⟩ :: rest) σ w := fun a ha => wpList_plain rfl fun K hK => by
  have hargs : xs.map a.eval = vs.toArray := by
    apply Array.ext'
    rw [Array.toList_map]
    have hag := ha.agrees
    clear hK hc h ha
    generalize xs.toList = l at *
    clear xs
    revert vs
    induction l with
    | nil => intro vs hxs; cases vs with | nil => rfl | cons _ _ => simp at hxs
    | cons x l ih =>
      intro vs hxs
      cases vs with
      | nil => simp at hxs
      | cons v vs =>
        simp only [List.map_cons, List.cons.injEq] at hxs
        simp only [List.map_cons, hag x v hxs.1]
        exact congrArg _ (ih hxs.2)
  obtain ⟨fn, hf, hn, hbd⟩ := hgo
  unfold Oper.wp
  have hrun : (execOp a.eval ⟨dst, .call ⟨.value (.func f), xs, ats⟩, T, pos, after, none⟩).run P w = .ok (.enter f vs.toArray) w := by
    have hn' : ¬ fn.name = "runtime.NumGoroutine" := by simpa using hn
    have hb' : ¬ fn.body = none := by intro hh; simp [hh] at hbd
    simp only [execOp, resolve, hargs]
    simp [Act.eval, Deferred.ofValue, invoke, callFunc, hf, hn', hb']
  rw [hrun]
  show Calls P f vs.toArray w _
  refine hc.mono ?_
  rintro e w' ⟨v, rfl, hΦ⟩
  cases dst with
  | none => exact hK _ _ (h v w' hΦ a ha)
  | some k => exact hK _ _ (h v w' hΦ _ (ha.put (of_decide_eq_true (by simpa using hd k rfl)) v))
end

/-! ### The operations -/
section
variable {P : Program} {σ : Env} {w : World} {dst : Option Nat} {T : TypeId} {pos : String} {after : Array Edge} {g : Option (Nat × Bool)}

theorem ex_move {x : Operand} {v : Value} (hx : σ.ev x = some v) : Ex P σ ⟨dst, .move x, T, pos, after, g⟩ w v w := fun ρ h => by
  simp [execOp, h x v hx]
theorem ex_assign {x : Operand} {v : Value} (hx : σ.ev x = some v) : Ex P σ ⟨dst, .assign x, T, pos, after, g⟩ w v w := fun ρ h => by
  simp [execOp, h x v hx]
theorem ex_pick_t {c x y : Operand} {v : Value} (hc : σ.ev c = some (.bool true)) (hx : σ.ev x = some v) : Ex P σ ⟨dst, .pick c x y, T, pos, after, g⟩ w v w := fun ρ h => by
  simp [execOp, h c _ hc, h x v hx, asBool]
theorem ex_pick_f {c x y : Operand} {v : Value} (hc : σ.ev c = some (.bool false)) (hx : σ.ev y = some v) : Ex P σ ⟨dst, .pick c x y, T, pos, after, g⟩ w v w := fun ρ h => by
  simp [execOp, h c _ hc, h y v hx, asBool]
theorem ex_not {x : Operand} {t : TypeId} {p : Prop} [Decidable p] (hx : σ.ev x = some (.bool (decide p))) : Ex P σ ⟨dst, .unOp .not t x, T, pos, after, g⟩ w (.bool (decide (¬ p))) w := fun ρ h => by
  simp [execOp, h x _ hx, Op.unary]
theorem ex_notb {x : Operand} {t : TypeId} {b : Bool} (hx : σ.ev x = some (.bool b)) : Ex P σ ⟨dst, .unOp .not t x, T, pos, after, g⟩ w (.bool (!b)) w := fun ρ h => by
  simp [execOp, h x _ hx, Op.unary]

theorem ex_int {bop : BinOp} {x y : Operand} {t t' : TypeId} {k : IntKind} {m n : Int} {v : Value} (hop : ∀ w : World, (Go.binOp bop t (.int k m) (.int k n)).run P w = .ok v w)
    (hx : σ.ev x = some (.int k m)) (hy : σ.ev y = some (.int k n)) : Ex P σ ⟨dst, .binOp bop t x y t', T, pos, after, g⟩ w v w := fun ρ h => by
  simp only [execOp, h x _ hx, h y _ hy]
  cases bop <;> simp [eqGuard, hop]

theorem wrap_of {k : IntKind} {n : Int} (h : k.min ≤ n) (h' : n ≤ k.max) : k.wrap n = n := by
  cases k <;> simp only [IntKind.wrap, IntKind.min, IntKind.max, IntKind.bits, IntKind.signed] at * <;> simp at * <;> (try split) <;> omega

theorem ex_add {x y : Operand} {t t' : TypeId} {k : IntKind} {m n : Int} (hx : σ.ev x = some (.int k m)) (hy : σ.ev y = some (.int k n)) (h1 : k.min ≤ m + n) (h2 : m + n ≤ k.max) :
    Ex P σ ⟨dst, .binOp .add t x y t', T, pos, after, g⟩ w (.int k (m + n)) w := ex_int (fun w => by simp [Go.binOp, Op.intArith, wrap_of h1 h2]) hx hy
theorem ex_sub {x y : Operand} {t t' : TypeId} {k : IntKind} {m n : Int} (hx : σ.ev x = some (.int k m)) (hy : σ.ev y = some (.int k n)) (h1 : k.min ≤ m - n) (h2 : m - n ≤ k.max) :
    Ex P σ ⟨dst, .binOp .sub t x y t', T, pos, after, g⟩ w (.int k (m - n)) w := ex_int (fun w => by simp [Go.binOp, Op.intArith, wrap_of h1 h2]) hx hy
theorem ex_mul {x y : Operand} {t t' : TypeId} {k : IntKind} {m n : Int} (hx : σ.ev x = some (.int k m)) (hy : σ.ev y = some (.int k n)) (h1 : k.min ≤ m * n) (h2 : m * n ≤ k.max) :
    Ex P σ ⟨dst, .binOp .mul t x y t', T, pos, after, g⟩ w (.int k (m * n)) w := ex_int (fun w => by simp [Go.binOp, Op.intArith, wrap_of h1 h2]) hx hy
theorem ex_addw {x y : Operand} {t t' : TypeId} {k : IntKind} {m n : Int} (hx : σ.ev x = some (.int k m)) (hy : σ.ev y = some (.int k n)) :
    Ex P σ ⟨dst, .binOp .add t x y t', T, pos, after, g⟩ w (.int k (k.wrap (m + n))) w := ex_int (fun w => by simp [Go.binOp, Op.intArith]) hx hy
theorem ex_subw {x y : Operand} {t t' : TypeId} {k : IntKind} {m n : Int} (hx : σ.ev x = some (.int k m)) (hy : σ.ev y = some (.int k n)) :
    Ex P σ ⟨dst, .binOp .sub t x y t', T, pos, after, g⟩ w (.int k (k.wrap (m - n))) w := ex_int (fun w => by simp [Go.binOp, Op.intArith]) hx hy
theorem ex_mulw {x y : Operand} {t t' : TypeId} {k : IntKind} {m n : Int} (hx : σ.ev x = some (.int k m)) (hy : σ.ev y = some (.int k n)) :
    Ex P σ ⟨dst, .binOp .mul t x y t', T, pos, after, g⟩ w (.int k (k.wrap (m * n))) w := ex_int (fun w => by simp [Go.binOp, Op.intArith]) hx hy
theorem ex_eql {x y : Operand} {t t' : TypeId} {k : IntKind} {m n : Int} (hx : σ.ev x = some (.int k m)) (hy : σ.ev y = some (.int k n)) :
    Ex P σ ⟨dst, .binOp .eql t x y t', T, pos, after, g⟩ w (.bool (decide (m = n))) w := ex_int (fun w => by simp only [Go.binOp, Op.intCmp]; simp; rw [Bool.eq_iff_iff]; simp) hx hy
theorem ex_neq {x y : Operand} {t t' : TypeId} {k : IntKind} {m n : Int} (hx : σ.ev x = some (.int k m)) (hy : σ.ev y = some (.int k n)) :
    Ex P σ ⟨dst, .binOp .neq t x y t', T, pos, after, g⟩ w (.bool (decide (m ≠ n))) w := ex_int (fun w => by simp only [Go.binOp, Op.intCmp]; simp; rw [Bool.eq_iff_iff]; simp) hx hy
theorem ex_lss {x y : Operand} {t t' : TypeId} {k : IntKind} {m n : Int} (hx : σ.ev x = some (.int k m)) (hy : σ.ev y = some (.int k n)) :
    Ex P σ ⟨dst, .binOp .lss t x y t', T, pos, after, g⟩ w (.bool (decide (m < n))) w := ex_int (fun w => by simp [Go.binOp, Op.intCmp]) hx hy
theorem ex_leq {x y : Operand} {t t' : TypeId} {k : IntKind} {m n : Int} (hx : σ.ev x = some (.int k m)) (hy : σ.ev y = some (.int k n)) :
    Ex P σ ⟨dst, .binOp .leq t x y t', T, pos, after, g⟩ w (.bool (decide (m ≤ n))) w := ex_int (fun w => by simp [Go.binOp, Op.intCmp]) hx hy
theorem ex_gtr {x y : Operand} {t t' : TypeId} {k : IntKind} {m n : Int} (hx : σ.ev x = some (.int k m)) (hy : σ.ev y = some (.int k n)) :
    Ex P σ ⟨dst, .binOp .gtr t x y t', T, pos, after, g⟩ w (.bool (decide (n < m))) w := ex_int (fun w => by simp [Go.binOp, Op.intCmp]) hx hy
theorem ex_geq {x y : Operand} {t t' : TypeId} {k : IntKind} {m n : Int} (hx : σ.ev x = some (.int k m)) (hy : σ.ev y = some (.int k n)) :
    Ex P σ ⟨dst, .binOp .geq t x y t', T, pos, after, g⟩ w (.bool (decide (n ≤ m))) w := ex_int (fun w => by simp [Go.binOp, Op.intCmp]) hx hy

theorem ex_add_i64 {x y : Operand} {t t' : TypeId} {m n : Int} (hx : σ.ev x = some (.int .i64 m)) (hy : σ.ev y = some (.int .i64 n)) (h1 : -9223372036854775808 ≤ m + n) (h2 : m + n ≤ 9223372036854775807) :
    Ex P σ ⟨dst, .binOp .add t x y t', T, pos, after, g⟩ w (.int .i64 (m + n)) w := ex_add hx hy h1 h2
theorem ex_sub_i64 {x y : Operand} {t t' : TypeId} {m n : Int} (hx : σ.ev x = some (.int .i64 m)) (hy : σ.ev y = some (.int .i64 n)) (h1 : -9223372036854775808 ≤ m - n) (h2 : m - n ≤ 9223372036854775807) :
    Ex P σ ⟨dst, .binOp .sub t x y t', T, pos, after, g⟩ w (.int .i64 (m - n)) w := ex_sub hx hy h1 h2
theorem ex_mul_i64 {x y : Operand} {t t' : TypeId} {m n : Int} (hx : σ.ev x = some (.int .i64 m)) (hy : σ.ev y = some (.int .i64 n)) (h1 : -9223372036854775808 ≤ m * n) (h2 : m * n ≤ 9223372036854775807) :
    Ex P σ ⟨dst, .binOp .mul t x y t', T, pos, after, g⟩ w (.int .i64 (m * n)) w := ex_mul hx hy h1 h2
theorem ex_add_i32 {x y : Operand} {t t' : TypeId} {m n : Int} (hx : σ.ev x = some (.int .i32 m)) (hy : σ.ev y = some (.int .i32 n)) (h1 : -2147483648 ≤ m + n) (h2 : m + n ≤ 2147483647) :
    Ex P σ ⟨dst, .binOp .add t x y t', T, pos, after, g⟩ w (.int .i32 (m + n)) w := ex_add hx hy h1 h2
theorem ex_sub_i32 {x y : Operand} {t t' : TypeId} {m n : Int} (hx : σ.ev x = some (.int .i32 m)) (hy : σ.ev y = some (.int .i32 n)) (h1 : -2147483648 ≤ m - n) (h2 : m - n ≤ 2147483647) :
    Ex P σ ⟨dst, .binOp .sub t x y t', T, pos, after, g⟩ w (.int .i32 (m - n)) w := ex_sub hx hy h1 h2
theorem ex_mul_i32 {x y : Operand} {t t' : TypeId} {m n : Int} (hx : σ.ev x = some (.int .i32 m)) (hy : σ.ev y = some (.int .i32 n)) (h1 : -2147483648 ≤ m * n) (h2 : m * n ≤ 2147483647) :
    Ex P σ ⟨dst, .binOp .mul t x y t', T, pos, after, g⟩ w (.int .i32 (m * n)) w := ex_mul hx hy h1 h2
theorem ex_add_u8 {x y : Operand} {t t' : TypeId} {m n : Int} (hx : σ.ev x = some (.int .u8 m)) (hy : σ.ev y = some (.int .u8 n)) (h1 : 0 ≤ m + n) (h2 : m + n ≤ 255) :
    Ex P σ ⟨dst, .binOp .add t x y t', T, pos, after, g⟩ w (.int .u8 (m + n)) w := ex_add hx hy h1 h2
theorem ex_sub_u8 {x y : Operand} {t t' : TypeId} {m n : Int} (hx : σ.ev x = some (.int .u8 m)) (hy : σ.ev y = some (.int .u8 n)) (h1 : 0 ≤ m - n) (h2 : m - n ≤ 255) :
    Ex P σ ⟨dst, .binOp .sub t x y t', T, pos, after, g⟩ w (.int .u8 (m - n)) w := ex_sub hx hy h1 h2
theorem ex_mul_u8 {x y : Operand} {t t' : TypeId} {m n : Int} (hx : σ.ev x = some (.int .u8 m)) (hy : σ.ev y = some (.int .u8 n)) (h1 : 0 ≤ m * n) (h2 : m * n ≤ 255) :
    Ex P σ ⟨dst, .binOp .mul t x y t', T, pos, after, g⟩ w (.int .u8 (m * n)) w := ex_mul hx hy h1 h2
theorem ex_add_u64 {x y : Operand} {t t' : TypeId} {m n : Int} (hx : σ.ev x = some (.int .u64 m)) (hy : σ.ev y = some (.int .u64 n)) (h1 : 0 ≤ m + n) (h2 : m + n ≤ 18446744073709551615) :
    Ex P σ ⟨dst, .binOp .add t x y t', T, pos, after, g⟩ w (.int .u64 (m + n)) w := ex_add hx hy h1 h2
theorem ex_sub_u64 {x y : Operand} {t t' : TypeId} {m n : Int} (hx : σ.ev x = some (.int .u64 m)) (hy : σ.ev y = some (.int .u64 n)) (h1 : 0 ≤ m - n) (h2 : m - n ≤ 18446744073709551615) :
    Ex P σ ⟨dst, .binOp .sub t x y t', T, pos, after, g⟩ w (.int .u64 (m - n)) w := ex_sub hx hy h1 h2
theorem ex_mul_u64 {x y : Operand} {t t' : TypeId} {m n : Int} (hx : σ.ev x = some (.int .u64 m)) (hy : σ.ev y = some (.int .u64 n)) (h1 : 0 ≤ m * n) (h2 : m * n ≤ 18446744073709551615) :
    Ex P σ ⟨dst, .binOp .mul t x y t', T, pos, after, g⟩ w (.int .u64 (m * n)) w := ex_mul hx hy h1 h2
theorem ex_add_u32 {x y : Operand} {t t' : TypeId} {m n : Int} (hx : σ.ev x = some (.int .u32 m)) (hy : σ.ev y = some (.int .u32 n)) (h1 : 0 ≤ m + n) (h2 : m + n ≤ 4294967295) :
    Ex P σ ⟨dst, .binOp .add t x y t', T, pos, after, g⟩ w (.int .u32 (m + n)) w := ex_add hx hy h1 h2
theorem ex_sub_u32 {x y : Operand} {t t' : TypeId} {m n : Int} (hx : σ.ev x = some (.int .u32 m)) (hy : σ.ev y = some (.int .u32 n)) (h1 : 0 ≤ m - n) (h2 : m - n ≤ 4294967295) :
    Ex P σ ⟨dst, .binOp .sub t x y t', T, pos, after, g⟩ w (.int .u32 (m - n)) w := ex_sub hx hy h1 h2
theorem ex_mul_u32 {x y : Operand} {t t' : TypeId} {m n : Int} (hx : σ.ev x = some (.int .u32 m)) (hy : σ.ev y = some (.int .u32 n)) (h1 : 0 ≤ m * n) (h2 : m * n ≤ 4294967295) :
    Ex P σ ⟨dst, .binOp .mul t x y t', T, pos, after, g⟩ w (.int .u32 (m * n)) w := ex_mul hx hy h1 h2
theorem ex_add_u16 {x y : Operand} {t t' : TypeId} {m n : Int} (hx : σ.ev x = some (.int .u16 m)) (hy : σ.ev y = some (.int .u16 n)) (h1 : 0 ≤ m + n) (h2 : m + n ≤ 65535) :
    Ex P σ ⟨dst, .binOp .add t x y t', T, pos, after, g⟩ w (.int .u16 (m + n)) w := ex_add hx hy h1 h2
theorem ex_sub_u16 {x y : Operand} {t t' : TypeId} {m n : Int} (hx : σ.ev x = some (.int .u16 m)) (hy : σ.ev y = some (.int .u16 n)) (h1 : 0 ≤ m - n) (h2 : m - n ≤ 65535) :
    Ex P σ ⟨dst, .binOp .sub t x y t', T, pos, after, g⟩ w (.int .u16 (m - n)) w := ex_sub hx hy h1 h2
theorem ex_mul_u16 {x y : Operand} {t t' : TypeId} {m n : Int} (hx : σ.ev x = some (.int .u16 m)) (hy : σ.ev y = some (.int .u16 n)) (h1 : 0 ≤ m * n) (h2 : m * n ≤ 65535) :
    Ex P σ ⟨dst, .binOp .mul t x y t', T, pos, after, g⟩ w (.int .u16 (m * n)) w := ex_mul hx hy h1 h2
theorem ex_len_slice {x : Operand} {ats : Array TypeId} {t e : TypeId} {a : Option Addr} {n c : Nat} (hx : σ.ev x = some (.slice a n c)) (ht : P.underlying t = some (.slice e)) (hats : ats = #[t]) :
    Ex P σ ⟨dst, .call ⟨.builtin .len, #[x], ats⟩, T, pos, after, g⟩ w (.int .i64 n) w := fun ρ h => by
  subst hats
  simp [execOp, resolve, h x _ hx, invoke, builtin, Builtin.len_, run_underlying ht, goInt]
theorem ex_len_str {x : Operand} {ats : Array TypeId} {t : TypeId} {s : ByteArray} (hx : σ.ev x = some (.string s)) (ht : P.underlying t = some .string) (hats : ats = #[t]) :
    Ex P σ ⟨dst, .call ⟨.builtin .len, #[x], ats⟩, T, pos, after, g⟩ w (.int .i64 s.size) w := fun ρ h => by
  subst hats
  simp [execOp, resolve, h x _ hx, invoke, builtin, Builtin.len_, run_underlying ht, goInt]

theorem ex_nilCheck {x : Operand} {a : Addr} (hx : σ.ev x = some (.pointer (some a))) : Ex P σ ⟨dst, .nilCheck x, T, pos, after, g⟩ w (.pointer (some a)) w := fun ρ h => by
  simp [execOp, h x _ hx]

theorem ex_fieldAddr {x : Operand} {s : TypeId} {i off b o : Nat} (hx : σ.ev x = some (.pointer (some ⟨b, o, none⟩))) (hf : fieldB P s i = some off) :
    Ex P σ ⟨dst, .fieldAddr s x i, T, pos, after, g⟩ w (.pointer (some ⟨b, o + off, none⟩)) w := fun ρ h => by
  simp only [fieldB] at hf
  split at hf <;> try cases hf
  rename_i fs hu
  split at hf <;> try cases hf
  rename_i f hfs
  split at hf <;> try cases hf
  rename_i n hn
  split at hf <;> try cases hf
  rename_i hsz
  have ha : (⟨b, o, none⟩ : Addr).add f.offset = ⟨b, o + f.offset, none⟩ := by unfold Addr.add; split <;> simp_all
  simp [execOp, h x _ hx, Instr.fieldAt, run_underlying hu, hfs, Instr.sureAddr, fieldPlace, sizeOf, typeInfo, hn, hsz, ha]

theorem ex_indexAddr {x i : Operand} {t : TypeId} {k : IntKind} {n sz b o len c : Nat} (hx : σ.ev x = some (.slice (some ⟨b, o, none⟩) len c)) (hi : σ.ev i = some (.int k n)) (he : elemB P t = some sz) (hlt : n < len) :
    Ex P σ ⟨dst, .indexAddr t x i, T, pos, after, g⟩ w (.pointer (some ⟨b, o + n * sz, none⟩)) w := fun ρ h => by
  simp only [elemB] at he
  split at he <;> try cases he
  rename_i e hu
  obtain ⟨inf, hin, hsz⟩ := Option.map_eq_some_iff.1 he
  have ha : (⟨b, o, none⟩ : Addr).add (n * sz) = ⟨b, o + n * sz, none⟩ := by unfold Addr.add; split <;> simp_all
  simp [execOp, h x _ hx, h i _ hi, Instr.indexAt, asIntOf, run_underlying hu, sizeOf, typeInfo, hin, hsz, hlt, ha]

theorem run_isAgg {t : TypeId} {b : Bool} (ht : aggB P t = some b) (w : World) : (isAgg t).run P w = .ok b w := by
  obtain ⟨d, hd, hb⟩ := Option.map_eq_some_iff.1 ht
  subst hb
  cases d <;> simp [isAgg, run_underlying hd]

theorem ex_load1 {x : Operand} {t : TypeId} {b o : Nat} {v : Value} (hx : σ.ev x = some (.pointer (some ⟨b, o, none⟩))) (ht : aggB P t = some false) (hc : w.cell? ⟨b, o, none⟩ = some v) :
    Ex P σ ⟨dst, .load t x, T, pos, after, g⟩ w v w := fun ρ h => by
  simp [execOp, h x _ hx, Instr.loadAt, Instr.sureAddr, loadVar, run_isAgg ht, hc]

theorem cell_blk {b o : Nat} {cs : Array Value} {t : TypeId} {fz : Nat × Nat} {v : Value} (hb : w.heap[b]? = some (.cells cs t fz)) (hv : cs[o]? = some v) : w.cell? ⟨b, o, none⟩ = some v := by
  simp [World.cell?, hb, hv]

def nth : List Value → Nat → Option Value
  | [], _ => none
  | a :: _, 0 => some a
  | _ :: l, n + 1 => nth l n
theorem nth_eq : ∀ (l : List Value) (n : Nat), nth l n = l[n]?
  | [], _ => by simp [nth]
  | _ :: _, 0 => by simp [nth]
  | _ :: l, n + 1 => by simp [nth, nth_eq l n]
theorem cell_nth {b o : Nat} {cs : Array Value} {t : TypeId} {fz : Nat × Nat} {v : Value} (hb : w.heap[b]? = some (.cells cs t fz)) (hv : nth cs.toList o = some v) : w.cell? ⟨b, o, none⟩ = some v :=
  cell_blk hb (by rw [nth_eq] at hv; simpa using hv)

theorem run_loadCellsFrom (b o : Nat) : ∀ (n i : Nat) (acc : Array Value) (vs : List Value), vs.length = n → (∀ j v, vs[j]? = some v → w.cell? ⟨b, o + (i + j), none⟩ = some v) →
    (loadCellsFrom ⟨b, o, none⟩ i n acc).run P w = .ok (acc ++ vs.toArray) w := by
  intro n
  induction n with
  | zero => intro i acc vs hl _; have : vs = [] := List.eq_nil_of_length_eq_zero hl; subst this; simp [loadCellsFrom]
  | succ n ih =>
    intro i acc vs hl hc
    cases vs with
    | nil => simp at hl
    | cons v vs =>
      have h0 := hc 0 v (by simp)
      have hadd : (⟨b, o, none⟩ : Addr).add i = ⟨b, o + (i + 0), none⟩ := by unfold Addr.add; split <;> simp_all
      have := ih (i + 1) (acc.push v) vs (by simpa using hl) (fun j u hu => by have := hc (j + 1) u (by simpa using hu); rw [show i + 1 + j = i + (j + 1) from by omega]; exact this)
      simp only [Nat.add_zero] at h0 hadd
      simp [loadCellsFrom, hadd, h0, this]

theorem ex_loadA {x : Operand} {t : TypeId} {b o n : Nat} {vs : List Value} (hx : σ.ev x = some (.pointer (some ⟨b, o, none⟩))) (ht : aggB P t = some true) (hs : sizeB P t = some n) (hl : vs.length = n)
    (hc : ∀ j v, vs[j]? = some v → w.cell? ⟨b, o + j, none⟩ = some v) : Ex P σ ⟨dst, .load t x, T, pos, after, g⟩ w (.agg vs.toArray) w := fun ρ h => by
  obtain ⟨inf, hin, hsz⟩ := Option.map_eq_some_iff.1 hs
  have hr := run_loadCellsFrom (P := P) (w := w) b o n 0 #[] vs hl (fun j v hv => by simpa using hc j v hv)
  simp [execOp, h x _ hx, Instr.loadAt, Instr.sureAddr, loadVar, run_isAgg ht, sizeOf, typeInfo, hin, hsz, loadCells, hr]
end



section
variable {P : Program} {σ : Env} {w : World} {dst : Option Nat} {T : TypeId} {pos : String} {after : Array Edge} {g : Option (Nat × Bool)}
theorem ex_eqA {x y : Operand} {t t' : TypeId} {xs ys : Array Value} {p : Prop} [Decidable p] (hx : σ.ev x = some (.agg xs)) (hy : σ.ev y = some (.agg ys)) (hq : P.eqGuardType P.depth t = false)
    (hr : ∀ w, (Op.equal t (.agg xs) (.agg ys)).run P w = .ok (decide p) w) : Ex P σ ⟨dst, .binOp .eql t x y t', T, pos, after, g⟩ w (.bool (decide p)) w := fun ρ h => by
  simp [execOp, h x _ hx, h y _ hy, eqGuard, hq, Go.binOp, hr]
theorem ex_neqA {x y : Operand} {t t' : TypeId} {xs ys : Array Value} {p : Prop} [Decidable p] (hx : σ.ev x = some (.agg xs)) (hy : σ.ev y = some (.agg ys)) (hq : P.eqGuardType P.depth t = false)
    (hr : ∀ w, (Op.equal t (.agg xs) (.agg ys)).run P w = .ok (decide p) w) : Ex P σ ⟨dst, .binOp .neq t x y t', T, pos, after, g⟩ w (.bool (decide (¬ p))) w := fun ρ h => by
  simp [execOp, h x _ hx, h y _ hy, eqGuard, hq, Go.binOp, hr]
end

theorem run_part1 {P : Program} {t : TypeId} {cs : Array Value} {off : Nat} {v : Value} (w : World) (ht : aggB P t = some false) (hv : cs[off]? = some v) : (part t cs off).run P w = .ok v w := by
  simp [part, run_isAgg ht, hv]

/-! ### Blocks -/
def zeroB (P : Program) (t : TypeId) : Option (Array Value) := ((P.info? t).bind (·.zero)).map Value.cells

theorem set_row (cs : Array Value) (o : Nat) (v : Value) (h : o < cs.size) : (cs.toList.take o ++ #[v].toList ++ cs.toList.drop (o + 1)).toArray = cs.setIfInBounds o v := by
  apply Array.toList_inj.1
  simp [List.set_eq_take_append_cons_drop, h]

theorem alloc_blk (w : World) (o : Obj) : (w.alloc o).heap[w.heap.size]? = some o := heap_alloc_new w o

theorem run_storeCells {P : Program} (b : Nat) (t : TypeId) : ∀ (vs : List Value) (o i : Nat) (cs : Array Value) (w : World), w.heap[b]? = some (.cells cs t (0, 0)) → o + i + vs.length ≤ cs.size → (∀ v, v ∈ vs → v.oneCell' = true) →
    ∃ w', (storeCells ⟨b, o, none⟩ vs i).run P w = .ok () w' ∧ w'.heap[b]? = some (.cells (cs.toList.take (o + i) ++ vs ++ cs.toList.drop (o + i + vs.length)).toArray t (0, 0)) ∧ Evo [b] w w' := by
  intro vs
  induction vs with
  | nil => intro o i cs w hb _ _; exact ⟨w, by simp [storeCells], by simpa using hb, Evo.refl _ _⟩
  | cons v vs ih =>
    intro o i cs w hb hle h1
    have hadd : (⟨b, o, none⟩ : Addr).add i = ⟨b, o + i, none⟩ := by unfold Addr.add; split <;> simp_all
    have hlt : o + i < cs.size := by simp at hle; omega
    have hc : w.cell? ⟨b, o + i, none⟩ = some cs[o + i] := cell_blk hb (by simp [hlt])
    have hfz : w.frozen? ⟨b, o + i, none⟩ = false := by simp [World.frozen?, hb]
    have hb1 : (w.setCell ⟨b, o + i, none⟩ v).heap[b]? = some (.cells (cs.setIfInBounds (o + i) v) t (0, 0)) := by
      simp only [World.setCell, Array.getElem?_modify, if_true, hb, Option.map_some]; rfl
    obtain ⟨w', hr, hb', he⟩ := ih o (i + 1) _ _ hb1 (by simp at hle ⊢; omega) (fun u hu => h1 u (List.mem_cons_of_mem _ hu))
    refine ⟨w', ?_, ?_, (evo_setCell w ⟨b, o + i, none⟩ v).trans he⟩
    · simp [storeCells, hadd, run_store P w _ v .plain (h1 v (by simp)), hc, hfz, hr]
    · rw [hb']
      congr 3
      apply List.ext_getElem?
      intro j
      simp only [Array.toList_setIfInBounds, List.append_assoc, List.getElem?_append, List.length_take, List.length_set, Array.length_toList, List.getElem?_take, List.getElem?_drop, List.length_cons, List.getElem?_set]
      by_cases h2 : j < o + i
      · simp [h2, show j < o + (i + 1) by omega, show j < min (o + (i + 1)) cs.size by omega, show j < min (o + i) cs.size by omega, show ¬ o + i = j by omega]
      · by_cases h3 : j = o + i
        · subst h3
          simp [show o + i < o + (i + 1) by omega, show o + i < min (o + (i + 1)) cs.size by omega, show ¬ (o + i < min (o + i) cs.size) by omega, hlt, show o + i - min (o + i) cs.size = 0 by omega]
        · simp only [show ¬ j < min (o + (i + 1)) cs.size by omega, show ¬ j < min (o + i) cs.size by omega, if_false]
          rw [show min (o + (i + 1)) cs.size = o + i + 1 by omega, show min (o + i) cs.size = o + i by omega]
          obtain ⟨m, rfl⟩ : ∃ m, j = o + i + 1 + m := ⟨j - (o + i + 1), by omega⟩
          rw [show o + i + 1 + m - (o + i + 1) = m by omega, show o + i + 1 + m - (o + i) = m + 1 by omega]
          simp only [List.getElem?_cons_succ, Nat.add_lt_add_iff_right, Nat.add_sub_add_right]
          split
          · rfl
          · rename_i h4
            rw [if_neg (by omega)]
            congr 1
            omega

section
variable {P : Program} {N : NN} {R : Post} {σ : Env} {w : World} {ops : Array Oper} {rest : List Oper} {d : Nat} {T : TypeId} {pos : String} {after : Array Edge}

theorem ex_loadBlk {x : Operand} {t U : TypeId} {b n : Nat} {cs : Array Value} {fz : Nat × Nat} {dst : Option Nat} {g : Option (Nat × Bool)} (hx : σ.ev x = some (.pointer (some ⟨b, 0, none⟩))) (ht : aggB P t = some true) (hs : sizeB P t = some n)
    (hb : w.heap[b]? = some (.cells cs U fz)) (hl : cs.size = n) : Ex P σ ⟨dst, .load t x, T, pos, after, g⟩ w (.agg cs) w := by
  have := ex_loadA (P := P) (σ := σ) (w := w) (dst := dst) (T := T) (pos := pos) (after := after) (g := g) (vs := cs.toList) hx ht hs (by simpa using hl) (fun j v hv => cell_blk hb (by simpa using hv))
  simpa using this

theorem wl_box {e : TypeId} {x : Operand} {v : Value} {cs : Array Value} (hd : Nat.blt d N.1 = true) (hx : σ.ev x = some v) (hc : v.cells = cs)
    (h : ∀ b w', w'.heap[b]? = some (.cells cs e (0, 0)) → w.heap.size = b → Evo [] w w' → WL P N ops R rest ((d, .pointer (some ⟨b, 0, none⟩)) :: σ) w') :
    WL P N ops R (⟨some d, .box e x, T, pos, after, none⟩ :: rest) σ w := by
  subst hc
  refine wl_val (w' := w.alloc (.cells v.cells e)) hd (fun ρ ha => ?_) (h _ _ (alloc_blk w _) rfl (evo_alloc w _))
  simp [execOp, ha x v hx, Instr.box, newVar, newRow]
theorem wl_boxA {e : TypeId} {x : Operand} {cs : Array Value} (hd : Nat.blt d N.1 = true) (hx : σ.ev x = some (.agg cs))
    (h : ∀ b w', w'.heap[b]? = some (.cells cs e (0, 0)) → w.heap.size = b → Evo [] w w' → WL P N ops R rest ((d, .pointer (some ⟨b, 0, none⟩)) :: σ) w') :
    WL P N ops R (⟨some d, .box e x, T, pos, after, none⟩ :: rest) σ w := wl_box hd hx rfl h
theorem wl_box1 {e : TypeId} {x : Operand} {v : Value} (hd : Nat.blt d N.1 = true) (hx : σ.ev x = some v) (h1 : v.oneCell' = true)
    (h : ∀ b w', w'.heap[b]? = some (.cells #[v] e (0, 0)) → w.heap.size = b → Evo [] w w' → WL P N ops R rest ((d, .pointer (some ⟨b, 0, none⟩)) :: σ) w') :
    WL P N ops R (⟨some d, .box e x, T, pos, after, none⟩ :: rest) σ w := wl_box hd hx (by cases v <;> first | rfl | cases h1) h
theorem wl_alloc {e : TypeId} {cs : Array Value} (hd : Nat.blt d N.1 = true) (hz : zeroB P e = some cs)
    (h : ∀ b w', w'.heap[b]? = some (.cells cs e (0, 0)) → w.heap.size = b → Evo [] w w' → WL P N ops R rest ((d, .pointer (some ⟨b, 0, none⟩)) :: σ) w') :
    WL P N ops R (⟨some d, .alloc e, T, pos, after, none⟩ :: rest) σ w := by
  obtain ⟨v, hv, rfl⟩ := Option.map_eq_some_iff.1 hz
  obtain ⟨i, hi, hz'⟩ := Option.bind_eq_some_iff.1 hv
  refine wl_val (w' := w.alloc (.cells v.cells e)) hd (fun ρ _ => ?_) (h _ _ (alloc_blk w _) rfl (evo_alloc w _))
  simp [execOp, Instr.alloc, zeroValue, typeInfo, hi, hz', newVar, newRow]

theorem wl_storeG {t U : TypeId} {x y : Operand} {v : Value} {b o n : Nat} {cs : Array Value} (hx : σ.ev x = some (.pointer (some ⟨b, o, none⟩))) (hy : σ.ev y = some v) (hs : sizeB P t = some n) (hn : v.cells.size = n)
    (h1 : ∀ u, u ∈ v.cells.toList → u.oneCell' = true) (hb : w.heap[b]? = some (.cells cs U (0, 0))) (hle : o + n ≤ cs.size)
    (h : ∀ w', w'.heap[b]? = some (.cells (cs.toList.take o ++ v.cells.toList ++ cs.toList.drop (o + n)).toArray U (0, 0)) → Evo [b] w w' → WL P N ops R rest σ w') :
    WL P N ops R (⟨none, .store t x y, T, pos, after, none⟩ :: rest) σ w := by
  obtain ⟨i, hi, hsz⟩ := Option.map_eq_some_iff.1 hs
  obtain ⟨w', hr, hb', he⟩ := run_storeCells (P := P) b U v.cells.toList o 0 cs w hb (by simpa [hn] using hle) h1
  refine wl_skip (w' := w') (fun ρ ha => ?_) (h w' (by simpa [hn] using hb') he)
  simp [execOp, ha x _ hx, ha y _ hy, Instr.storeAt, Instr.sureAddr, storeVar, sizeOf, typeInfo, hi, hsz, hn, hr]
theorem wl_store1 {t U : TypeId} {x y : Operand} {v : Value} {b o : Nat} {cs : Array Value} (hx : σ.ev x = some (.pointer (some ⟨b, o, none⟩))) (hy : σ.ev y = some v) (h1 : v.oneCell' = true) (hs : sizeB P t = some 1)
    (hb : w.heap[b]? = some (.cells cs U (0, 0))) (hle : Nat.blt o cs.size = true)
    (h : ∀ w', w'.heap[b]? = some (.cells (cs.setIfInBounds o v) U (0, 0)) → Evo [b] w w' → WL P N ops R rest σ w') :
    WL P N ops R (⟨none, .store t x y, T, pos, after, none⟩ :: rest) σ w := by
  have hc : v.cells = #[v] := by cases v <;> first | rfl | cases h1
  have hlt : o < cs.size := of_decide_eq_true (by simpa using hle)
  refine wl_storeG hx hy hs (by simp [hc]) (by simp [hc, h1]) hb (by omega) (fun w' hb' he => h w' ?_ he)
  rw [hb', hc]
  have e := set_row cs o v hlt
  simp only at e ⊢
  rw [e]
def AllOne : List Value → Prop
  | [] => True
  | v :: r => v.oneCell' = true ∧ AllOne r
theorem AllOne.mem {l : List Value} (h : AllOne l) : ∀ u, u ∈ l → u.oneCell' = true := by
  induction l with
  | nil => intro u hu; cases hu
  | cons v l ih =>
    intro u hu
    rcases List.mem_cons.1 hu with rfl | hu
    · exact h.1
    · exact ih h.2 u hu
/-- A whole block is written over. -/
theorem wl_storeBlk {t U : TypeId} {x y : Operand} {b n : Nat} {cs vs : Array Value} (hx : σ.ev x = some (.pointer (some ⟨b, 0, none⟩))) (hy : σ.ev y = some (.agg vs)) (hs : sizeB P t = some n)
    (hb : w.heap[b]? = some (.cells cs U (0, 0))) (hn : vs.size = n) (hn' : cs.size = n) (h1 : AllOne vs.toList)
    (h : ∀ w', w'.heap[b]? = some (.cells vs U (0, 0)) → Evo [b] w w' → WL P N ops R rest σ w') :
    WL P N ops R (⟨none, .store t x y, T, pos, after, none⟩ :: rest) σ w := by
  refine wl_storeG hx hy hs hn (fun u hu => h1.mem u hu) hb (by omega) (fun w' hb' he => h w' ?_ he)
  rw [hb']
  simp only [List.take_zero, List.nil_append, Nat.zero_add]
  rw [List.drop_of_length_le (by simp; omega)]
  simp [Value.cells]
end

/-- The cells from ⟨b, o⟩ on hold vs. -/
def CellsAt (w : World) (b o : Nat) (vs : List Value) : Prop := ∀ j v, vs[j]? = some v → w.cell? ⟨b, o + j, none⟩ = some v

theorem CellsAt.evo {X : List Nat} {w w' : World} {b o : Nat} {vs : List Value} (h : CellsAt w b o vs) (he : Evo X w w') (hb : b ∉ X) : CellsAt w' b o vs := fun j v hv => he.cell (h j v hv) hb


/-! ### Slices of the call's own -/
def intB (P : Program) (t : TypeId) : Option Bool := (P.underlying t).map fun | .int _ => true | _ => false

/-- The slice value v of n elements owns the block ob: its cells from the beginning on are xs. -/
def Own (w : World) (e : TypeId) (sz : Nat) (v : Value) (n : Nat) (xs : List Value) (ob : Option Nat) : Prop :=
  xs.length = n * sz ∧ ((v = .slice none 0 0 ∧ n = 0 ∧ ob = none) ∨
    ∃ g cap cur, ob = some g ∧ v = .slice (some ⟨g, 0, none⟩) n cap ∧ w.heap[g]? = some (.cells cur e (0, 0)) ∧ n ≤ cap ∧ cap ≤ maxLen ∧ cur.size = cap * sz ∧ cur.toList.take (n * sz) = xs)

/-- What is appended: m elements, the cells news. -/
structure Src (P : Program) (w : World) (sz : Nat) (x : Value) (m : Nat) (news : List Value) : Prop where
  len : ∀ w2, (Builtin.lenOf x).run P w2 = .ok m w2
  cells : ∀ w2 : World, w2.heap = w.heap → (Builtin.firstCells sz m x).run P w2 = .ok news.toArray w2
  length : news.length = m * sz
  one : ∀ u, u ∈ news → u.oneCell' = true

theorem Src.nil {P : Program} {w : World} {sz : Nat} : Src P w sz (.slice none 0 0) 0 [] :=
  ⟨fun _ => rfl, fun _ _ => rfl, by simp, fun _ h => by cases h⟩
theorem Src.slice {P : Program} {w : World} {sz b o m c : Nat} {news : List Value} (hl : news.length = m * sz) (hc : CellsAt w b o news) (h1 : ∀ u, u ∈ news → u.oneCell' = true) : Src P w sz (.slice (some ⟨b, o, none⟩) m c) m news :=
  ⟨fun _ => rfl, fun w2 h2 => run_firstCells_some (P := P) w2 sz m ⟨b, o, none⟩ m c news hl (fun j v hv => by
    have hadd : (⟨b, o, none⟩ : Addr).add j = ⟨b, o + j, none⟩ := by unfold Addr.add; split <;> simp_all
    rw [hadd, show w2.cell? ⟨b, o + j, none⟩ = w.cell? ⟨b, o + j, none⟩ from by simp [World.cell?, h2]]
    exact hc j v hv), hl, h1⟩

theorem run_append {P : Program} {w : World} {t u ty e : TypeId} {i : TypeInfo} {z : Value} {sz bytes : Nat} (ht : P.underlying t = some (.slice e)) (hu : intB P u = some false) (hi : P.info? e = some i) (hz : i.zero = some z)
    (hsize : i.size = sz) (hby : i.bytes = bytes) (hb0 : 0 < bytes) (hzs : z.cells.size = sz) {v x : Value} {n m : Nat} {xs news : List Value} {ob : Option Nat} (hown : Own w e sz v n xs ob) (hsrc : Src P w sz x m news)
    (hbytes : (n + m) * bytes ≤ 140737488355328) :
    ∃ v' w' ob', (Builtin.append_ #[t, u] ty #[v, x]).run P w = .ok v' w' ∧ Own w' e sz v' (n + m) (xs ++ news) ob' ∧ Evo ob.toList w w' ∧ (ob' = ob ∨ ∃ g, ob' = some g ∧ w.heap.size ≤ g ∧ Evo [] w w') := by
  subst hsize hby
  obtain ⟨du, hdu, hdb⟩ := Option.map_eq_some_iff.1 hu
  have hmul : n + m ≤ (n + m) * i.bytes := Nat.le_mul_of_pos_right _ hb0
  have h63 : n + m ≤ 140737488355328 := Nat.le_trans hmul hbytes
  have hlen : (xs ++ news).length = (n + m) * i.size := by rw [List.length_append, hown.1, hsrc.length, Nat.add_mul]
  have hnz : ∀ k, du ≠ .int k := fun k hk => by subst hk; simp at hdb
  have grown : ∀ old, old < n + m → ∃ w', w' = w.drew.alloc (.cells (xs.toArray ++ news.toArray ++ Builtin.zeroCells z.cells (grownCap w (n + m) old e - (n + m))) e) ∧
      Own w' e i.size (.slice (some ⟨w.heap.size, 0, none⟩) (n + m) (grownCap w (n + m) old e)) (n + m) (xs ++ news) (some w.heap.size) ∧ Evo [] w w' := by
    intro old ho
    refine ⟨_, rfl, ⟨hlen, .inr ⟨w.heap.size, _, _, rfl, rfl, heap_alloc_new w.drew _, grownCap_ge w (n + m) old e, grownCap_le_maxLen w (n + m) old e (by unfold maxLen; omega), ?_, ?_⟩⟩, ⟨rfl, rfl, rfl, by simp, fun k hk _ => RowKit.Below.heap_alloc w.drew _ k hk⟩⟩
    · have hge := grownCap_ge w (n + m) old e
      simp only [Array.size_append, List.size_toArray, size_zeroCells, hzs, hown.1, hsrc.length, ← Nat.add_mul]
      congr 1
      omega
    · simp only [Array.toList_append, List.append_assoc]
      rw [← List.append_assoc, ← hlen]
      exact List.take_left
  rcases hown.2 with ⟨rfl, rfl, rfl⟩ | ⟨g, cap, cur, rfl, rfl, hg, hnc, hcm, hcs, htake⟩
  · have hx : xs = [] := List.eq_nil_of_length_eq_zero (by simpa using hown.1)
    subst hx
    by_cases hm : m = 0
    · subst hm
      have hn : news = [] := List.eq_nil_of_length_eq_zero (by simpa using hsrc.length)
      subst hn
      refine ⟨.slice none 0 0, w, none, ?_, ⟨by simp, .inl ⟨rfl, rfl, rfl⟩⟩, Evo.refl _ _, .inl rfl⟩
      have hc := hsrc.cells w rfl
      simp only [Builtin.append_, run_underlying ht, run_underlying hdu, sizeOf, typeInfo, hi, List.getElem?_toArray, List.getElem?_cons_zero, List.getElem?_cons_succ, Sem.run_bind, Sem.run_pure, Result.andThen_ok, run_program]
      simp [hi, hsrc.len, hc]
    · obtain ⟨w', hw', ho', he'⟩ := grown 0 (by omega)
      refine ⟨_, w', some w.heap.size, ?_, ho', he'.any _, .inr ⟨_, rfl, Nat.le_refl _, he'⟩⟩
      have hc := hsrc.cells w.drew rfl
      have hfit := growslice_fits (need := 0 + m) (old := 0) (by omega) hbytes
      simp only [Nat.zero_add] at hfit
      simp only [Builtin.append_, run_underlying ht, run_underlying hdu, sizeOf, typeInfo, hi, List.getElem?_toArray, List.getElem?_cons_zero, List.getElem?_cons_succ, Sem.run_bind, Sem.run_pure, Result.andThen_ok, run_program]
      simp [hi, hz, zeroValue, typeInfo, hsrc.len, hc, hm, show ¬ (9223372036854775807 < (m : Int)) by omega, show ¬ (281474976710656 < Builtin.nextslicecap m 0 * i.bytes) by omega, Question.forced, run_firstCells_none, newRow, grownCap, hw']
  · by_cases hroom : n + m ≤ cap
    · have hfit : n * i.size + 0 + news.length ≤ cur.size := by rw [hsrc.length, hcs, Nat.add_zero, ← Nat.add_mul]; exact Nat.mul_le_mul_right _ hroom
      obtain ⟨w', hr, hb', he'⟩ := run_storeCells (P := P) g e news (n * i.size) 0 cur w hg hfit hsrc.one
      refine ⟨.slice (some ⟨g, 0, none⟩) (n + m) cap, w', some g, ?_, ⟨hlen, .inr ⟨g, cap, _, rfl, rfl, hb', hroom, hcm, ?_, ?_⟩⟩, he', .inl rfl⟩
      · have hc := hsrc.cells w rfl
        have hadd : (⟨g, 0, none⟩ : Addr).add (n * i.size) = ⟨g, n * i.size, none⟩ := by unfold Addr.add; split <;> simp_all
        simp only [Builtin.append_, run_underlying ht, run_underlying hdu, sizeOf, typeInfo, hi, List.getElem?_toArray, List.getElem?_cons_zero, List.getElem?_cons_succ, Sem.run_bind, Sem.run_pure, Result.andThen_ok, run_program]
        simp [hi, hsrc.len, hc, hroom, hadd, hr]
      · simp only [List.size_toArray, List.length_append, List.length_take, List.length_drop, Array.length_toList]
        omega
      · simp only [Nat.add_zero] at htake ⊢
        rw [htake, ← hlen]
        exact List.take_left
    · obtain ⟨w', hw', ho', he'⟩ := grown cap (by omega)
      refine ⟨_, w', some w.heap.size, ?_, ho', he'.any _, .inr ⟨_, rfl, Nat.le_refl _, he'⟩⟩
      have hc := hsrc.cells w.drew rfl
      have hold := run_firstCells_some (P := P) w.drew i.size n ⟨g, 0, none⟩ n cap xs hown.1 (fun j v hv => by
        have hadd : (⟨g, 0, none⟩ : Addr).add j = ⟨g, j, none⟩ := by unfold Addr.add; split <;> simp_all
        rw [hadd]
        refine cell_blk hg ?_
        rw [← htake, List.getElem?_take] at hv
        split at hv
        · simpa using hv
        · cases hv)
      have hfit := growslice_fits (need := n + m) (old := cap) (by omega) hbytes
      simp only [Builtin.append_, run_underlying ht, run_underlying hdu, sizeOf, typeInfo, hi, List.getElem?_toArray, List.getElem?_cons_zero, List.getElem?_cons_succ, Sem.run_bind, Sem.run_pure, Result.andThen_ok, run_program]
      simp [hi, hz, zeroValue, typeInfo, hsrc.len, hc, hold, hroom, show ¬ (9223372036854775807 < (n : Int) + (m : Int)) by omega, show ¬ (281474976710656 < Builtin.nextslicecap (n + m) cap * i.bytes) by omega, Question.forced, newRow, grownCap, hw']
      rw [← Array.append_assoc, show xs.toArray ++ news.toArray = (xs ++ news).toArray from by simp]


/-- The same, the slice's address and capacity apart. -/
def OwnS (w : World) (e : TypeId) (sz : Nat) (a : Option Addr) (n c : Nat) (xs : List Value) (ob : Option Nat) : Prop := Own w e sz (.slice a n c) n xs ob

theorem OwnS.nil (w : World) (e : TypeId) (sz : Nat) : OwnS w e sz none 0 0 [] none := ⟨by simp, .inl ⟨rfl, rfl, rfl⟩⟩
theorem OwnS.lt {w : World} {e : TypeId} {sz : Nat} {a : Option Addr} {n c : Nat} {xs : List Value} {g : Nat} (h : OwnS w e sz a n c xs (some g)) : g < w.heap.size := by
  rcases h.2 with ⟨_, _, h⟩ | ⟨g', _, _, hg, _, hb, _⟩
  · cases h
  · cases hg; exact blk_lt hb
theorem OwnS.evo {X : List Nat} {w w' : World} {e : TypeId} {sz : Nat} {a : Option Addr} {n c : Nat} {xs : List Value} {ob : Option Nat} (h : OwnS w e sz a n c xs ob) (he : Evo X w w') (hx : ∀ g, ob = some g → g ∉ X) : OwnS w' e sz a n c xs ob := by
  refine ⟨h.1, ?_⟩
  rcases h.2 with h1 | ⟨g, cap, cur, hg, hv, hb, r⟩
  · exact .inl h1
  · exact .inr ⟨g, cap, cur, hg, hv, he.blk hb (hx g hg), r⟩
theorem OwnS.evo0 {w w' : World} {e : TypeId} {sz : Nat} {a : Option Addr} {n c : Nat} {xs : List Value} {ob : Option Nat} (h : OwnS w e sz a n c xs ob) (he : Evo [] w w') : OwnS w' e sz a n c xs ob := h.evo he (fun _ _ h => by cases h)
theorem OwnS.length {w : World} {e : TypeId} {sz : Nat} {a : Option Addr} {n c : Nat} {xs : List Value} {ob : Option Nat} (h : OwnS w e sz a n c xs ob) : xs.length = n * sz := h.1
theorem OwnS.le {w : World} {e : TypeId} {sz : Nat} {a : Option Addr} {n c : Nat} {xs : List Value} {ob : Option Nat} (h : OwnS w e sz a n c xs ob) : n ≤ c := by
  rcases h.2 with ⟨h1, rfl, _⟩ | ⟨g, cap, cur, _, hv, _, hn, _⟩
  · omega
  · cases hv; exact hn
/-- Where its cells lie. -/
theorem OwnS.at {w : World} {e : TypeId} {sz : Nat} {a : Option Addr} {n c : Nat} {xs : List Value} {ob : Option Nat} (h : OwnS w e sz a n c xs ob) (h0 : 0 < n) : ∃ g cur, ob = some g ∧ a = some ⟨g, 0, none⟩ ∧ w.heap[g]? = some (.cells cur e (0, 0)) ∧ cur.size = c * sz ∧ cur.toList.take (n * sz) = xs := by
  rcases h.2 with ⟨_, rfl, _⟩ | ⟨g, cap, cur, hg, hv, hb, hn, hc, hs, ht⟩
  · omega
  · cases hv; exact ⟨g, cur, hg, rfl, hb, hs, ht⟩
theorem OwnS.cells {w : World} {e : TypeId} {sz : Nat} {a : Option Addr} {n c : Nat} {xs : List Value} {ob : Option Nat} (h : OwnS w e sz a n c xs ob) (h0 : 0 < n) : ∃ g, ob = some g ∧ a = some ⟨g, 0, none⟩ ∧ CellsAt w g 0 xs := by
  obtain ⟨g, cur, hg, ha, hb, _, ht⟩ := h.at h0
  refine ⟨g, hg, ha, fun j v hv => cell_blk hb ?_⟩
  rw [← ht, List.getElem?_take] at hv
  split at hv
  · simpa using hv
  · cases hv

def appB (P : Program) (t u : TypeId) : Option (TypeId × Nat × Nat) :=
  match P.underlying t with
  | some (.slice e) => match P.info? e with
    | some i => match i.zero with
      | some z => if z.cells.size = i.size ∧ 0 < i.bytes ∧ intB P u = some false then some (e, i.size, i.bytes) else none
      | none => none
    | none => none
  | _ => none

section
variable {P : Program} {N : NN} {R : Post} {σ : Env} {w : World} {ops : Array Oper} {rest : List Oper} {d : Nat} {T : TypeId} {pos : String} {after : Array Edge}

/-- The same; where the elements move, the old block stays as it is. -/
theorem wl_appendS {s x : Operand} {t u e : TypeId} {ats : Array TypeId} {sz bytes n m c : Nat} {a : Option Addr} {vx : Value} {xs news : List Value} {ob : Option Nat} (hd : Nat.blt d N.1 = true) (hs : σ.ev s = some (.slice a n c)) (hx : σ.ev x = some vx) (hats : ats = #[t, u])
    (hf : appB P t u = some (e, sz, bytes)) (hown : OwnS w e sz a n c xs ob) (hsrc : Src P w sz vx m news) (hbytes : (n + m) * bytes ≤ 140737488355328)
    (h : ∀ a' c' w' ob', OwnS w' e sz a' (n + m) c' (xs ++ news) ob' → Evo ob.toList w w' → (ob' = ob ∨ ∃ g, ob' = some g ∧ w.heap.size ≤ g ∧ Evo [] w w') → WL P N ops R rest ((d, .slice a' (n + m) c') :: σ) w') :
    WL P N ops R (⟨some d, .call ⟨.builtin .append, #[s, x], ats⟩, T, pos, after, none⟩ :: rest) σ w := by
  subst hats
  simp only [appB] at hf
  split at hf <;> try cases hf
  rename_i e' ht
  split at hf <;> try cases hf
  rename_i i hi
  split at hf <;> try cases hf
  rename_i z hz
  split at hf <;> try cases hf
  rename_i hc
  obtain ⟨v', w', ob', hr, ho, he, hob⟩ := run_append (ty := T) ht hc.2.2 hi hz rfl rfl hc.2.1 hc.1 hown hsrc hbytes
  have hv : ∃ a' c', v' = .slice a' (n + m) c' := by
    rcases ho.2 with ⟨h1, h2, _⟩ | ⟨g, cap, _, _, h1, _⟩
    · exact ⟨none, 0, by rw [h1, h2]⟩
    · exact ⟨_, _, h1⟩
  obtain ⟨a', c', rfl⟩ := hv
  refine wl_val (w' := w') hd (fun ρ ha => ?_) (h a' c' w' ob' ho he hob)
  simp [execOp, resolve, ha s _ hs, ha x _ hx, invoke, builtin, hr]
theorem wl_append {s x : Operand} {t u e : TypeId} {ats : Array TypeId} {sz bytes n m c : Nat} {a : Option Addr} {vx : Value} {xs news : List Value} {ob : Option Nat} (hd : Nat.blt d N.1 = true) (hs : σ.ev s = some (.slice a n c)) (hx : σ.ev x = some vx) (hats : ats = #[t, u])
    (hf : appB P t u = some (e, sz, bytes)) (hown : OwnS w e sz a n c xs ob) (hsrc : Src P w sz vx m news) (hbytes : (n + m) * bytes ≤ 140737488355328)
    (h : ∀ a' c' w' ob', OwnS w' e sz a' (n + m) c' (xs ++ news) ob' → Evo ob.toList w w' → (ob' = ob ∨ ∃ g, ob' = some g ∧ w.heap.size ≤ g) → WL P N ops R rest ((d, .slice a' (n + m) c') :: σ) w') :
    WL P N ops R (⟨some d, .call ⟨.builtin .append, #[s, x], ats⟩, T, pos, after, none⟩ :: rest) σ w :=
  wl_appendS hd hs hx hats hf hown hsrc hbytes fun a' c' w' ob' h1 h2 h3 => h a' c' w' ob' h1 h2 (h3.imp id fun ⟨g, k1, k2, _⟩ => ⟨g, k1, k2⟩)

theorem fill_row (sz : Nat) : ∀ (vs : List Value) (k : Nat) (pre post : List Value), (∀ v, v ∈ vs → v.cells.size = sz) → pre.length = k * sz → post.length = vs.length * sz →
    Instr.fill (fun i => some (i * sz, sz)) (pre ++ post).toArray ((vs.zipIdx k).map fun p => (p.2, p.1)) = some (pre ++ vs.flatMap (fun v => v.cells.toList)).toArray := by
  intro vs
  induction vs with
  | nil => intro k pre post _ _ hpost; have : post = [] := List.eq_nil_of_length_eq_zero (by simpa using hpost); subst this; simp [Instr.fill]
  | cons v vs ih =>
    intro k pre post hsz hpre hpost
    have hv := hsz v (by simp)
    have hpl : post.length = sz + vs.length * sz := by rw [hpost, List.length_cons, Nat.add_mul]; omega
    have key : ∀ (l : List Value) (j : Nat) (p q : List Value), p.length = k * sz + j → l.length ≤ q.length →
        (l.zipIdx j).foldl (fun (cs : Array Value) x => cs.setIfInBounds (k * sz + x.2) x.1) (p ++ q).toArray = (p ++ l ++ q.drop l.length).toArray := by
      intro l
      induction l with
      | nil => intro j p q _ _; simp
      | cons c l ihl =>
        intro j p q hp hq
        cases q with
        | nil => simp at hq
        | cons q0 q =>
          have := ihl (j + 1) (p ++ [c]) q (by simp [hp]; omega) (by simpa using hq)
          simp only [List.zipIdx_cons, List.foldl_cons, List.setIfInBounds_toArray]
          rw [show (p ++ q0 :: q).set (k * sz + j) c = p ++ [c] ++ q from by rw [← hp]; simp]
          simpa using this
    have hk := key v.cells.toList 0 pre post (by simpa using hpre) (by simp [hv]; omega)
    simp only [List.zipIdx_cons, List.map_cons, Instr.fill]
    rw [if_neg (by simp [hv, hpre, hpl])]
    rw [← Array.foldl_toList, Array.toList_zipIdx, hk]
    have h2 := ih (k + 1) (pre ++ v.cells.toList) (post.drop v.cells.toList.length) (fun u hu => hsz u (List.mem_cons_of_mem _ hu)) (by simp [hpre, hv, Nat.add_mul]) (by simp [hv, hpl])
    rw [h2]
    simp

def sliceB (P : Program) (t : TypeId) : Option (TypeId × Nat) :=
  match P.underlying t with
  | some (.slice e) => match P.info? e with
    | some i => match i.zero with
      | some z => if z.cells.size = i.size then some (e, i.size) else none
      | none => none
    | none => none
  | _ => none

theorem wl_bslice {t e : TypeId} {sz len : Nat} {parts : Array (Nat × Operand)} {vs : List Value} (hd : Nat.blt d N.1 = true) (hf : sliceB P t = some (e, sz)) (hp : parts.toList.map (fun p => (p.1, σ.ev p.2)) = vs.zipIdx.map (fun q => (q.2, some q.1)))
    (hlen : vs.length = len) (hsz : vs.all (fun v => Nat.beq v.cells.size sz) = true) (hle : Nat.ble (len * sz + len) 16777216 = true)
    (h : ∀ b w', OwnS w' e sz (some ⟨b, 0, none⟩) len len (vs.flatMap fun v => v.cells.toList) (some b) → w.heap.size = b → Evo [] w w' → WL P N ops R rest ((d, .slice (some ⟨b, 0, none⟩) len len) :: σ) w') :
    WL P N ops R (⟨some d, .buildSlice t len parts, T, pos, after, none⟩ :: rest) σ w := by
  simp only [sliceB] at hf
  split at hf <;> try cases hf
  rename_i e' ht
  split at hf <;> try cases hf
  rename_i i hi
  split at hf <;> try cases hf
  rename_i z hz
  split at hf <;> try cases hf
  rename_i hc
  have hvs : ∀ v, v ∈ vs → v.cells.size = i.size := fun v hv => Nat.eq_of_beq_eq_true (List.all_eq_true.1 hsz v hv)
  have hfl : (vs.flatMap fun v => v.cells.toList).length = len * i.size := by
    rw [← hlen]; clear hp hlen hsz hle h
    induction vs with
    | nil => simp
    | cons v vs ih => simp [ih (fun u hu => hvs u (List.mem_cons_of_mem _ hu)), hvs v (by simp), Nat.add_mul]; omega
  have hle' : len * i.size + len ≤ 16777216 := Nat.le_of_ble_eq_true hle
  refine wl_val (w' := w.alloc (.cells (vs.flatMap fun v => v.cells.toList).toArray e)) hd (fun ρ ha => ?_) (h w.heap.size _ ⟨hfl, .inr ⟨w.heap.size, len, _, rfl, rfl, heap_alloc_new w _, Nat.le_refl _, ?_, by simp [hfl], ?_⟩⟩ rfl (evo_alloc w _))
  · have hparts : (parts.map fun p => (p.1, ρ p.2)).toList = (vs.zipIdx 0).map fun p => (p.2, p.1) := by
      rw [Array.toList_map]
      clear h hlen hsz hvs hfl hle hle'
      revert hp
      generalize parts.toList = l
      generalize vs.zipIdx 0 = q
      intro hp
      induction l generalizing q with
      | nil => cases q with | nil => rfl | cons _ _ => simp at hp
      | cons p l ih =>
        cases q with
        | nil => simp at hp
        | cons x q =>
          simp only [List.map_cons, List.cons.injEq, Prod.mk.injEq] at hp ⊢
          exact ⟨⟨hp.1.1, ha _ _ hp.1.2⟩, ih q hp.2⟩
    have hfill := fill_row i.size vs 0 [] (List.map (fun j => z.cells[j % z.cells.size]!) (List.range (len * i.size))) hvs (by simp) (by simp [hlen])
    simp only [List.nil_append] at hfill
    have harr : ((Array.range (len * i.size)).map fun j => z.cells[j % z.cells.size]!) = (List.map (fun j => z.cells[j % z.cells.size]!) (List.range (len * i.size))).toArray := by
      apply Array.toList_inj.1; simp
    rw [← harr, ← hparts] at hfill
    simp only [execOp, Instr.buildSlice, run_underlying ht, sizeOf, typeInfo, hi, Sem.run_bind, Sem.run_pure, Result.andThen_ok, run_program, zeroValue]
    rw [Array.toList_map] at hfill
    by_cases h0 : len * i.size = 0
    · have hr0 : Array.range 0 = #[] := rfl
      simp only [h0, hr0, Array.map_empty] at hfill
      simp only [hi, h0, hr0, if_true, Sem.run_bind, Sem.run_pure, Result.andThen_ok, run_program, Array.map_empty, Array.toList_map]
      simp [hfill, newRow]
    · have hzz : (zeroValue e).run P w = .ok z w := by simp [zeroValue, typeInfo, hi, hz]
      simp [hi, hz, h0, newRow, show ¬ (16777216 < len * i.size) by omega, hfill]
  · unfold maxLen; omega
  · rw [← hfl]; exact List.take_length
end

/-! ### Regions that draw their order -/
section
variable {P : Program} {N : NN} {R : Post} {σ : Env} {w : World} {ops : Array Oper} {rest : List Oper} {d : Nat} {op : Op} {T : TypeId} {pos : String} {after : Array Edge}

/-- All operations only read: one walk in the order of the text. -/
def QL (P : Program) (N : NN) (ops : Array Oper) (w : World) (R : Post) (l : List Oper) (σ : Env) : Prop :=
  ∀ a, Fits N σ a → wpQuiet P ops (fun w' => ∃ n, w' = w.drewN n) (fun a' => ∀ w', (∃ n, w' = w.drewN n) → toQ R .normal a' w') l a

theorem evo_drewN (w : World) (n : Nat) : Evo [] w (w.drewN n) := ⟨rfl, rfl, rfl, Nat.le_refl _, fun _ _ _ => rfl⟩

theorem cw_quiet {id : Nat} {l : List Oper} (hm : P.follows .mixedOrders = true) (hB : Region.lexB .any l.toArray = true) (h : QL P N l.toArray w R l σ) : CW P N (.region id l.toArray true) R σ w :=
  fun a ha => wp_region_quiet_lit hm hB (h a ha)

theorem ql_nil (h : ∀ w', Evo [] w w' → R .normal N σ w') : QL P N ops w R [] σ := fun _ ha => wpQuiet_nil fun w' ⟨n, hn⟩ => ⟨N, σ, ha, h w' (hn ▸ evo_drewN w n)⟩

theorem ql_val {r : Value} (hd : Nat.blt d N.1 = true) (hx : ∀ w', Evo [] w w' → Ex P σ ⟨some d, op, T, pos, after, none⟩ w' r w') (h : QL P N ops w R rest ((d, r) :: σ)) :
    QL P N ops w R (⟨some d, op, T, pos, after, none⟩ :: rest) σ := fun a ha => by
  refine wpQuiet_step fun K hK => ?_
  rw [if_pos (by simp [Region.wanted])]
  refine ⟨r, ?_, hK _ (h _ (ha.put (of_decide_eq_true (by simpa using hd)) r))⟩
  rintro w' ⟨n, rfl⟩
  unfold Oper.quietAt
  rw [hx _ (evo_drewN w n) a.eval ha.agrees]
  exact ⟨rfl, rfl⟩

theorem ql_go {dst : Option Nat} {j : Nat} {pol : Bool} {oj : Oper} {t : Nat} (hj : ops[j]? = some oj) (ht : oj.dst = some t) (hv : σ.get t = some (.bool pol)) (hN : Nat.blt t N.1 = true)
    (h : QL P N ops w R (⟨dst, op, T, pos, after, none⟩ :: rest) σ) : QL P N ops w R (⟨dst, op, T, pos, after, some (j, pol)⟩ :: rest) σ := fun a ha => by
  have h1 := h a ha
  have hg : Region.wanted (⟨dst, op, T, pos, after, some (j, pol)⟩ : Oper) (yielded ops a.tmps) = true := by
    have hs : t < a.tmps.size := by rw [ha.1]; exact of_decide_eq_true (by simpa using hN)
    have := ha.2.2 t _ hv
    simp only [Array.getD_eq_getD_getElem?, Array.getElem?_eq_getElem hs, Option.getD_some] at this
    simp [Region.wanted, yielded, hj, ht, Array.getElem?_eq_getElem hs, this]
  unfold wpQuiet at h1 ⊢
  rw [if_pos hg]
  rw [if_pos (by simp [Region.wanted])] at h1
  exact h1
theorem ql_no {j : Nat} {pol b : Bool} {oj : Oper} {t : Nat} (hj : ops[j]? = some oj) (ht : oj.dst = some t) (hv : σ.get t = some (.bool b)) (hb : b = !pol) (hN : Nat.blt t N.1 = true) (hd : Nat.blt d N.1 = true)
    (h : QL P N ops w R rest ((d, undef) :: σ)) : QL P N ops w R (⟨some d, op, T, pos, after, some (j, pol)⟩ :: rest) σ := fun a ha => by
  have hg : Region.wanted (⟨some d, op, T, pos, after, some (j, pol)⟩ : Oper) (yielded ops a.tmps) = false := by
    have hs : t < a.tmps.size := by rw [ha.1]; exact of_decide_eq_true (by simpa using hN)
    have := ha.2.2 t _ hv
    simp only [Array.getD_eq_getD_getElem?, Array.getElem?_eq_getElem hs, Option.getD_some] at this
    subst hb
    cases pol <;> simp [Region.wanted, yielded, hj, ht, Array.getElem?_eq_getElem hs, this]
  unfold wpQuiet
  rw [if_neg (by rw [hg]; simp)]
  exact h _ (ha.put (of_decide_eq_true (by simpa using hd)) _)

theorem Fits.split {t : Nat} {b c : Bool} {a : Act} (hv : σ.get t = some (.bool b)) (he : b = c) (ha : Fits N σ a) : Fits N ((t, .bool c) :: σ) a :=
  ⟨ha.1, ha.2.1, fun u v hu => by
    simp only [Env.get] at hu
    cases hb : Nat.beq t u with
    | true =>
      rw [hb] at hu
      have : t = u := Nat.eq_of_beq_eq_true hb
      subst this
      simp only [cond_true, Option.some.injEq] at hu
      rw [← hu, ha.2.2 t _ hv, he]
    | false => rw [hb] at hu; exact ha.2.2 u v hu⟩

theorem ql_split {l : List Oper} {t : Nat} {p : Prop} [Decidable p] (hv : σ.get t = some (.bool (decide p))) (ht : p → QL P N ops w R l ((t, .bool true) :: σ)) (hf : ¬ p → QL P N ops w R l ((t, .bool false) :: σ)) : QL P N ops w R l σ := by
  intro a ha
  by_cases h : p
  · exact ht h a (ha.split hv (decide_eq_true h))
  · exact hf h a (ha.split hv (decide_eq_false h))
theorem ql_splitb {l : List Oper} {t : Nat} {b : Bool} (hv : σ.get t = some (.bool b)) (ht : b = true → QL P N ops w R l ((t, .bool true) :: σ)) (hf : b = false → QL P N ops w R l ((t, .bool false) :: σ)) : QL P N ops w R l σ := by
  intro a ha
  cases b with
  | true => exact ht rfl a (ha.split hv rfl)
  | false => exact hf rfl a (ha.split hv rfl)
end

/-! ### Rows of cells that stand for data -/
/-- What a row of cells stands for, in a world, none of its blocks in X. -/
abbrev Rel (α : Type) := List Nat → World → List Value → α → Prop

def Rel.Pers {α : Type} (R : Rel α) : Prop := ∀ X w w' vs d, Evo X w w' → R X w vs d → R X w' vs d
/-- New blocks are none of those that a datum uses. -/
def Rel.Fresh {α : Type} (R : Rel α) : Prop := ∀ X Y w vs d, (∀ y, y ∈ Y → y ∈ X ∨ w.heap.size ≤ y) → R X w vs d → R Y w vs d

/-- A slice: nil or not; its elements lie one behind the other, sz cells each. -/
def RSl {α : Type} (sz : Nat) (R : Rel α) (X : List Nat) (w : World) (v : Value) (ds : List α) : Prop :=
  ∃ a c, v = .slice a ds.length c ∧ ds.length ≤ c ∧ ∀ k (hk : k < ds.length), ∃ b o vs, a = some ⟨b, o, none⟩ ∧ b ∉ X ∧ vs.length = sz ∧ CellsAt w b (o + k * sz) vs ∧ R X w vs ds[k]

theorem RSl.evo {α : Type} {sz : Nat} {R : Rel α} (hR : R.Pers) {X : List Nat} {w w' : World} {v : Value} {ds : List α} (he : Evo X w w') (h : RSl sz R X w v ds) : RSl sz R X w' v ds := by
  obtain ⟨a, c, hv, hc, h⟩ := h
  refine ⟨a, c, hv, hc, fun k hk => ?_⟩
  obtain ⟨b, o, vs, ha, hb, hl, hcs, hr⟩ := h k hk
  exact ⟨b, o, vs, ha, hb, hl, hcs.evo he hb, hR _ _ _ _ _ he hr⟩

def RInt (k : IntKind) : Rel Int := fun _ _ vs n => vs = [.int k n] ∧ k.min ≤ n ∧ n ≤ k.max
def RBool : Rel Bool := fun _ _ vs b => vs = [.bool b]
def RStr : Rel ByteArray := fun _ _ vs s => vs = [.string s]
def RSlice {α : Type} (sz : Nat) (R : Rel α) : Rel (List α) := fun X w vs ds => ∃ v, vs = [v] ∧ RSl sz R X w v ds

theorem RInt.pers (k : IntKind) : (RInt k).Pers := fun _ _ _ _ _ _ h => h
theorem RBool.pers : RBool.Pers := fun _ _ _ _ _ _ h => h
theorem RStr.pers : RStr.Pers := fun _ _ _ _ _ _ h => h
theorem RSlice.pers {α : Type} {sz : Nat} {R : Rel α} (hR : R.Pers) : (RSlice sz R).Pers := fun _ _ _ _ _ he ⟨v, hv, h⟩ => ⟨v, hv, h.evo hR he⟩
end Go.W
