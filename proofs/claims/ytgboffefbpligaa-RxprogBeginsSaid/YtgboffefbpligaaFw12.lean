/- A range over a function of two loop variables that lie in slots; an iterator's call of yield with two values. -/
import Derived.Test.YtgboffefbpligaaFw9
namespace Go.W
open Go.RowKit
set_option linter.unusedVariables false
set_option linter.unusedSimpArgs false
set_option linter.unusedSectionVars false

/-- What a body must keep: all below a number, what iterators hold, and one block more. -/
def KpB (n0 bs : Nat) (W W' : World) : Prop := (Below n0 W W' ∧ KeepsWalks W W') ∧ W'.heap[bs]? = W.heap[bs]?
def roundRB {α : Type} (B n0 bs : Nat) (I : List α → World → Prop) (Ix : Code → List α → World → Prop) (xs : List α) (W : World) : Post
  | .normal, _, _, W' => KeepsFrom B W W' ∧ KpB n0 bs W W' ∧ I xs W'
  | .ret, _, _, W' => KeepsFrom B W W' ∧ Ix .ret xs W'
  | .exit id, _, _, W' => KeepsFrom B W W' ∧ Ix (.exit id) xs W'
  | .goto t, _, _, W' => KeepsFrom B W W' ∧ Ix (.goto t) xs W'
  | _, _, _, _ => False
/-- As cw_rangeFuncW, with two loop variables in slots of their own. -/
theorem cw_rangeFuncW2 {α : Type} {P : Program} {N : NN} {R : Post} {σ : Env} {w : World} {g : Operand} {p q dv dw : Tmp} {assign body : Code} {gf : Nat} {lb : Array Value} {enc en2 : α → Value} {S Sp : List α → Prop} {K n0 bs : Nat}
    (hg : σ.ev g = some (.func (.func gf) #[] lb)) (eg : ∀ args w, (callFunc gf args).run P w = .ok (.enter gf args) w) (hp : (Nat.blt p N.1 && Nat.blt q N.1) = true)
    (hseq : SeqStopsK Fence.wide 4 P gf lb (fun x => #[enc x, en2 x]) (KpB n0 bs) S Sp K w) (hn0 : n0 ≤ w.heap.size ∧ bs < w.heap.size)
    (I : List α → World → Prop) (Ix : Code → List α → World → Prop) (hI : OwnFrom w.heap.size I) (hIx : ∀ c, OwnFrom w.heap.size (Ix c)) (h0 : I [] w)
    (AX : α → Nat → World → Prop) (hAX : ∀ x bx, OwnFrom w.heap.size (fun (_ : Unit) W => AX x bx W))
    (hassign : ∀ l pre x W, I pre W → CWi l 3 P (N.1, []) assign (onlyR (N.1, []) fun σ' W' => ∃ bx, σ' = (dw, en2 x) :: (dv, enc x) :: (q, en2 x) :: (p, enc x) :: σ ∧ KeepsFrom w.heap.size W W' ∧ KpB n0 bs W W' ∧ I pre W' ∧ AX x bx W') ((q, en2 x) :: (p, enc x) :: σ) W)
    (hbody : ∀ l pre x bx W, I pre W → AX x bx W → pre.length < K → CWi l 3 P (N.1, []) body (roundRB w.heap.size n0 bs I Ix (pre ++ [x]) W) ((dw, en2 x) :: (dv, enc x) :: (q, en2 x) :: (p, enc x) :: σ) W)
    (hdone : ∀ D xs W, w.heap.size ≤ D → S xs → I xs W → W.heap[D]? = some (.deferred (some [])) → R .normal (N.1, mark D :: N.2) σ W)
    (hstop : ∀ D c pre W, w.heap.size ≤ D → Sp pre → Ix c pre W → W.heap[D]? = some (.deferred (some [])) → CW P (N.1, mark D :: N.2) c R σ W) :
    CW P N (.rangeFunc g #[p, q] assign body) R σ w := by
  intro a ha
  refine (wpIn_wide (n := 5)).1 (wpIn_rangeFunc_ownH rfl (by omega) (ha.agrees g _ hg) trivial eg hseq (fun h k => ⟨⟨belowK_t h.1.1 k.1.1, walksK_t h.1.2 k.1.2⟩, k.2.trans h.2⟩) (fun W l o o' h1 h2 h3 h4 => ⟨⟨belowK_b hn0.1 W l o o' h1 h2 h3 h4, walksK_b (w := w) W l o o' h1 h2 h3 h4⟩, (evo_putObj W l o').block bs (by have := blk_lt h2; omega) (by simp; omega)⟩) (Below.refl _ _) (fun _ => rfl) I Ix hI hIx h0
    (fun x a' W => ∃ bx, Fits (N.1, []) ((dw, en2 x) :: (dv, enc x) :: (q, en2 x) :: (p, enc x) :: σ) a' ∧ AX x bx W) ?_ ?_ ?_ ?_ ?_)
  · rintro x a' s A B row ⟨bx, hf, hs⟩ hg' hr
    exact ⟨bx, hf, hAX x bx s A B row hs hg' hr⟩
  · intro l pre x W K' hi hK
    have hpq : p < N.1 ∧ q < N.1 := by simpa using hp
    have hf : Fits (N.1, []) ((q, en2 x) :: (p, enc x) :: σ) { tmps := ((#[p, q] : Array Tmp).zip #[enc x, en2 x]).foldl (fun t (p, v) => t.setIfInBounds p v) a.tmps, defers := [] } := by
      have h1 : Fits (N.1, []) σ { tmps := a.tmps, defers := [] } := ⟨ha.1, rfl, ha.2.2⟩
      have h2 := (h1.put (d := p) hpq.1 (enc x)).put (d := q) hpq.2 (en2 x)
      simpa [Act.put] using h2
    refine wpIn_mono (hassign l pre x W hi _ hf) ?_
    intro e a' w' hq
    cases e with
    | normal => obtain ⟨N', σ', hf', rfl, bx, rfl, h1, h2, h3, h4⟩ := hq; exact hK _ _ h1 h2 h3 ⟨bx, hf', h4⟩
    | exit i => obtain ⟨_, _, _, hk⟩ := hq; exact hk.elim
    | goto i => obtain ⟨_, _, _, hk⟩ := hq; exact hk.elim
    | ret => obtain ⟨_, _, _, hk⟩ := hq; exact hk.elim
    | panic i => obtain ⟨_, _, hk⟩ := hq; exact hk.elim
    | outgrown => obtain ⟨_, hk⟩ := hq; exact hk.elim
  · rintro l pre x a' W _ _ hi ⟨bx, hf, hax⟩ hlt
    refine wpIn_mono (hbody l pre x bx W hi hax hlt a' hf) ?_
    intro e a' w' hq
    cases e with
    | normal => obtain ⟨N', σ', hf', hk⟩ := hq; exact hk
    | exit i => obtain ⟨_, _, _, hk⟩ := hq; exact hk
    | goto i => obtain ⟨_, _, _, hk⟩ := hq; exact hk
    | ret => obtain ⟨_, _, _, hk⟩ := hq; exact hk
    | panic i => obtain ⟨_, _, hk⟩ := hq; exact hk.elim
    | outgrown => obtain ⟨_, hk⟩ := hq; exact hk.elim
  · intro D xs W hD hS hi hK
    exact ⟨(N.1, mark D :: N.2), σ, ⟨ha.1, by rw [ha.2.1], ha.2.2⟩, hdone D xs W hD hS hi hK⟩
  · intro D c pre W hD hS hi hK
    exact wpIn_wide.2 (hstop D c pre W hD hS hi hK _ ⟨ha.1, by rw [ha.2.1], ha.2.2⟩)

section
variable {P : Program} {N : NN} {R : Post} {σ : Env} {w w' : World} {ops : Array Oper} {rest : List Oper} {n d : Nat} {op : Op} {T : TypeId} {pos : String} {after : Array Edge}
theorem wly_yield2 {f x y : Operand} {ats : Array TypeId} {l : Nat} {v u0 : Value} {E : Ending → World → Prop} (hd : Nat.blt d N.1 = true) (hf : σ.ev f = some (.func (.yield l) #[] #[])) (hx : σ.ev x = some v) (hy0 : σ.ev y = some u0) (hY : YieldAt Fence.wide (n - 1) P l #[v, u0] w E)
    (hE : ∀ e w', E e w' → ∃ u, e = .returned u ∧ WLy n P N ops R rest ((d, u) :: σ) w') :
    WLy n P N ops R (⟨some d, .call ⟨.value f, #[x, y], ats⟩, T, pos, after, none⟩ :: rest) σ w := fun a ha => wpListIn_plain rfl fun K hK => by
  obtain ⟨fn, tmps, assign, body, hy, hR⟩ := hY
  refine ⟨fun _ _ => trivial, ?_⟩
  have h1 : (execOp a.eval (⟨some d, .call ⟨.value f, #[x, y], ats⟩, T, pos, after, none⟩ : Oper)).run P w = .ok (.round l fn tmps assign body) w := by
    simp [execOp, resolve, Deferred.ofValue, ha.agrees f _ hf, ha.agrees x _ hx, ha.agrees y _ hy0, invoke, hy]
  rw [Oper.semAt_eq _ _ _ (by intro c hc; cases hc), h1]
  refine ⟨fun h => by simp [Fence.wide] at h, hR.mono ?_⟩
  intro e w' he
  obtain ⟨u, rfl, h2⟩ := hE e w' he
  exact hK _ _ (h2 _ (ha.put (of_decide_eq_true (by simpa using hd)) u))
end
end Go.W
