/- The layer, eighth part: a range over a function: the marks that it leaves on the frame, the body walked in a round. -/
import Derived.Test.YtgboffefbpligaaFw7
import Derived.RangeFuncNested
import Derived.RangeFuncLeaves
import Derived.RangeFuncCalls
import Derived.TacticsIn
import Derived.OwnWalkIn
namespace Go.W
open Go.RowKit
set_option linter.unusedSimpArgs false
set_option linter.unusedVariables false

/-! ### Marks -/
abbrev mark (D : Nat) : Deferred := { target := .collected D, args := #[] }
def bodyRM (P : Program) (fn : Func) (E : Ending → World → Prop) : Post
  | .normal, N, σ, w => ∃ Ds : List Nat, N.2 = Ds.map mark ∧ Ds.Nodup ∧ (∀ D, D ∈ Ds → w.heap[D]? = some (.deferred (some []))) ∧ ∀ w', Evo Ds w w' → ∀ a, Fits (a.tmps.size, a.defers) σ a → ∃ v, (results fn a.tmps).run P w' = .ok v w' ∧ E (.returned v) w'
  | .ret, N, σ, w => ∃ Ds : List Nat, N.2 = Ds.map mark ∧ Ds.Nodup ∧ (∀ D, D ∈ Ds → w.heap[D]? = some (.deferred (some []))) ∧ ∀ w', Evo Ds w w' → ∀ a, Fits (a.tmps.size, a.defers) σ a → ∃ v, (results fn a.tmps).run P w' = .ok v w' ∧ E (.returned v) w'
  | .panic _, _, _, _ => False
  | .outgrown, _, _, _ => False
  | .exit _, _, _, _ => False
  | .goto _, _, _, _ => False
theorem evo_putObj (w : World) (b : Nat) (o : Obj) : Evo [b] w (w.putObj b o) :=
  ⟨rfl, rfl, rfl, by simp [World.putObj], fun k _ hx => by
    have : b ≠ k := fun e => hx (by simp [e])
    simp [World.putObj, Array.getElem?_setIfInBounds_ne this]⟩
theorem leaves_marks {P : Program} {n : Nat} {fn : Func} {tmps : Array Value} {E : Ending → World → Prop} : ∀ (Ds : List Nat) (w : World), Ds.Nodup → (∀ D, D ∈ Ds → w.heap[D]? = some (.deferred (some []))) →
    (∀ w', Evo Ds w w' → ∃ v, (results fn tmps).run P w' = .ok v w' ∧ E (.returned v) w') → LeavesInM Fence.wide n P fn tmps E (Ds.map mark) .returning w
  | [], w, _, _, h => h w (Evo.refl _ _)
  | D :: Ds, w, hnd, hD, h => by
    have hnd' := List.nodup_cons.1 hnd
    refine ⟨by simp, .inl ⟨D, _, rfl, run_takeDeferred (hD D (List.mem_cons_self ..)), ?_⟩⟩
    have he := evo_putObj w D (.deferred none)
    refine leaves_marks Ds _ hnd'.2 (fun D' hD' => he.blk (hD D' (List.mem_cons_of_mem _ hD')) (fun hm => hnd'.1 (by rw [List.mem_singleton.1 hm] at hD'; exact hD'))) fun w' hw' => h w' ?_
    exact (he.mono (fun b hb => by rw [List.mem_singleton.1 hb]; exact List.mem_cons_self ..)).trans (hw'.mono (fun b hb => List.mem_cons_of_mem _ hb))
section
variable {P : Program} {σ : Env} {w : World}
theorem calls_of_cwM {f : FuncId} {fn : Func} {c : Code} {args : List Value} {E : Ending → World → Prop} {N : Nat}
    (hf : P.funcs[f]? = some fn) (hb : fn.body = some c) (hN : fn.ntmps = N) (hle' : Nat.ble args.length N = true)
    (h : CW P (N, []) c (bodyRM P fn E) (paramEnv 0 args) w) : Calls P f args.toArray w E := by
  have hle : args.length ≤ N := Nat.le_of_ble_eq_true hle'
  refine (callsIn_wide (n := 5)).1 (callsIn_of_wp_marks hf hb trivial (wpIn_wide.2 (wp_mono (h _ ⟨?_, rfl, ?_⟩) ?_)))
  · simp [hN]; omega
  · intro t v hv
    obtain ⟨_, h2⟩ := paramEnv_get args 0 t v hv
    simp only [Nat.sub_zero] at h2
    have hlt : t < args.length := (List.getElem?_eq_some_iff.1 h2).1
    have h3 : args[t] = v := by rw [List.getElem?_eq_getElem hlt] at h2; exact Option.some.inj h2
    simp [Array.getElem?_append, hlt, h3]
  · intro e a' w' hq
    cases e with
    | normal => obtain ⟨N', σ', hf', Ds, hn, hnd, hD, hk⟩ := hq; show LeavesInM _ _ _ _ _ _ _ _ _; rw [hf'.2.1, hn]; exact leaves_marks Ds w' hnd hD fun w'' hw => hk w'' hw a' (by rw [hf'.1, hf'.2.1]; exact hf')
    | ret => obtain ⟨N', σ', hf', Ds, hn, hnd, hD, hk⟩ := hq; show LeavesInM _ _ _ _ _ _ _ _ _; rw [hf'.2.1, hn]; exact leaves_marks Ds w' hnd hD fun w'' hw => hk w'' hw a' (by rw [hf'.1, hf'.2.1]; exact hf')
    | panic ch => obtain ⟨_, _, hk⟩ := hq; exact hk.elim
    | outgrown => obtain ⟨_, hk⟩ := hq; exact hk.elim
    | exit i => obtain ⟨_, _, _, hk⟩ := hq; exact hk.elim
    | goto l => obtain ⟨_, _, _, hk⟩ := hq; exact hk.elim
/-- A function's end behind marks, its result in a cell. -/
theorem body_retM1 {n : Nat} {fn : Func} {r : ResultVar} {v : Value} {Φ : Value → World → Prop} (Ds : List Nat) (hr : fn.results = #[r]) (hnd : Ds.Nodup) (hD : ∀ D, D ∈ Ds → w.heap[D]? = some (.deferred (some []))) (h1 : ∀ w', Evo Ds w w' → ResOk P σ w' r v) (h : ∀ w', Evo Ds w w' → Φ v w') : bodyRM P fn (Ret Φ) .ret (n, Ds.map mark) σ w :=
  ⟨Ds, rfl, hnd, hD, fun w' hw a ha => ⟨v, by rw [results_eq, hr]; simp [h1 w' hw a ha], _, rfl, h w' hw⟩⟩
end

/-! ### A loop that lets the marks grow -/
section
variable {P : Program} {N : NN} {R : Post} {σ : Env} {w : World}
theorem cw_loopN {c : Code} {α : Type} (x0 : α) (Nf : α → NN) (hN : Nf x0 = N) (M : α → Env) (C : Env) (Φ : α → World → Prop) (μ : α → Nat) (hM : Sub (M x0) σ) (hC : Sub C σ) (h0 : Φ x0 w)
    (round : ∀ x w, Φ x w → CW P (Nf x) c (thenR (fun N' σ' w' => ∃ x', N' = Nf x' ∧ μ x' < μ x ∧ Sub (M x') σ' ∧ Sub C σ' ∧ Φ x' w') R) (M x ++ C) w) : CW P N (.loop c) R σ w := by
  intro a ha
  refine wp_loop_ghost (fun n a w => ∃ x, μ x = n ∧ Fits (Nf x) (M x ++ C) a ∧ Φ x w) (μ x0) ⟨x0, rfl, by rw [hN]; exact Fits.app hM hC ha ha, h0⟩ ?_
  rintro n a w ⟨x, rfl, hf, hx⟩
  refine wp_mono (round x w hx a hf) ?_
  intro e a' w' hq
  cases e with
  | normal =>
    obtain ⟨N', σ', hf', x', rfl, hlt, hM', hC', hΦ⟩ := hq
    exact ⟨μ x', hlt, x', rfl, Fits.app hM' hC' hf' hf', hΦ⟩
  | exit i => exact hq
  | goto l => exact hq
  | ret => exact hq
  | panic c => exact hq
  | outgrown => exact hq
end

/-! ### In a round -/
def noDefer (l : List Oper) : Bool := l.all fun o => match o.op with | .defer _ => false | _ => true
theorem rows_in {P : Program} {n : Nat} {row : String} {args : Array Value} {w : World} {E : Value → World → Prop} {l : Nat} (h : Rows P row args w E) : RowsIn (Fence.wide.inRound l) n P row args w E := fun c cs _ => by
  obtain ⟨v, w', r, s⟩ := h c cs
  exact ⟨v, w', r, stepsIn_wide.2 s⟩
theorem calls_in {P : Program} {n : Nat} {f : FuncId} {args : Array Value} {w : World} {E : Ending → World → Prop} {l : Nat} (h : Calls P f args w E) : CallsIn (Fence.wide.inRound l) n P f args w E := CallsIn.inRound l (callsIn_wide.2 h)
theorem list_in {P : Program} {n : Nat} {ops : Array Oper} {Q : Exit → Act → World → Prop} {l : Nat} (hQ : ¬ LetsOut Q) : ∀ (os : List Oper) (a : Act) (w : World), noDefer os = true → wpList P ops Q os a w → wpListIn (Fence.wide.inRound l) n P ops Q os a w
  | [], a, w, _, h => h
  | o :: rest, a, w, hd, h => by
    have hd1 : ∀ c, o.op ≠ .defer c := fun c hc => by simp [noDefer, hc] at hd
    have hd2 : noDefer rest = true := by simp only [noDefer, List.all_cons, Bool.and_eq_true] at hd; exact hd.2
    unfold wpList at h
    unfold wpListIn
    split at h
    · rename_i hw
      rw [if_pos hw]
      rcases h with h | ⟨_, h⟩
      · refine ⟨fun _ _ => trivial, ?_⟩
        rw [Oper.semAt_eq _ _ _ hd1]
        unfold Oper.wp at h
        generalize (execOp a.eval o).run P w = r at *
        cases r with
        | ok x w' =>
          cases x with
          | value v => exact list_in hQ rest _ _ hd2 h
          | skip => exact list_in hQ rest _ _ hd2 h
          | defer d => exact list_in hQ rest _ _ hd2 h
          | enter f args =>
            refine ⟨fun hs => by simp [Fence.inRound, Fence.wide] at hs, calls_in (Calls.mono h ?_)⟩
            intro e w'' he
            cases e with
            | returned v => exact list_in hQ rest _ _ hd2 he
            | panicked c => exact he
            | outgrown => exact he
          | row row args => exact ⟨fun hs => by simp [Fence.inRound, Fence.wide] at hs, rows_in (Rows.mono h fun v w'' he => list_in hQ rest _ _ hd2 he)⟩
          | _ => exact h.elim
        | halt x w' =>
          cases x <;> first | exact h | exact h.elim
      · exact absurd h hQ
    · rename_i hw
      rw [if_neg hw]
      exact ⟨fun _ _ => trivial, list_in hQ rest _ _ hd2 h⟩
/-- As CW, in a round of the loop l. -/
def CWi (l n : Nat) (P : Program) (N : NN) (c : Code) (R : Post) (σ : Env) (w : World) : Prop := ∀ a, Fits N σ a → c.wpIn (Fence.wide.inRound l) n P (toQ R) a w
section
variable {P : Program} {N : NN} {R : Post} {σ : Env} {w : World} {l n : Nat}
theorem cwi_seq {x y : Code} (h : CWi l n P N x (thenR (fun N σ w => CWi l n P N y R σ w) R) σ w) : CWi l n P N (.seq x y) R σ w := by
  intro a ha
  refine wpIn_seq (wpIn_mono (h a ha) ?_)
  intro e a' w' hq
  cases e with
  | normal => obtain ⟨N', σ', hf, hk⟩ := hq; exact hk a' hf
  | exit i => exact hq
  | goto l => exact hq
  | ret => exact hq
  | panic c => exact hq
  | outgrown => exact hq
theorem cwi_block {id : Nat} {c : Code} (h : CWi l n P N c (blockR id R) σ w) : CWi l n P N (.block id c) R σ w := by
  intro a ha
  refine wpIn_block (wpIn_mono (h a ha) ?_)
  intro e a' w' hq
  cases e with
  | normal => exact hq
  | exit i =>
    obtain ⟨N', σ', hf, hk⟩ := hq
    simp only [blockR] at hk
    simp only [Exit.inBlock]
    cases hb : Nat.beq i id with
    | true =>
      rw [hb] at hk
      rw [if_pos (Nat.eq_of_beq_eq_true hb)]
      exact ⟨N', σ', hf, hk⟩
    | false =>
      rw [hb] at hk
      rw [if_neg (Nat.ne_of_beq_eq_false hb)]
      exact ⟨N', σ', hf, hk⟩
  | goto l => exact hq
  | ret => exact hq
  | panic c => exact hq
  | outgrown => exact hq
theorem cwi_skip (h : R .normal N σ w) : CWi l n P N .skip R σ w := fun _ ha => wpIn_skip ⟨N, σ, ha, h⟩
theorem cwi_exit {i : Nat} (h : R (.exit i) N σ w) : CWi l n P N (.exit i) R σ w := fun _ ha => wpIn_exit ⟨N, σ, ha, h⟩
theorem cwi_ret (h : R .ret N σ w) : CWi l n P N .ret R σ w := fun _ ha => wpIn_ret ⟨N, σ, ha, h⟩
theorem cwi_if {c : Operand} {x y : Code} {p : Prop} [Decidable p] (hc : σ.ev c = some (.bool (decide p))) (ht : p → CWi l n P N x R σ w) (hf : ¬ p → CWi l n P N y R σ w) : CWi l n P N (.cond c x y) R σ w :=
  fun a ha => wpIn_cond_split (ha.agrees c _ hc) (fun h => ht (of_decide_eq_true h) a ha) (fun h => hf (of_decide_eq_false h) a ha)
theorem cwi_ifb {c : Operand} {x y : Code} {b : Bool} (hc : σ.ev c = some (.bool b)) (ht : b = true → CWi l n P N x R σ w) (hf : b = false → CWi l n P N y R σ w) : CWi l n P N (.cond c x y) R σ w :=
  fun a ha => wpIn_cond_split (ha.agrees c _ hc) (fun h => ht h a ha) (fun h => hf h a ha)
theorem cwi_true {c : Operand} {x y : Code} (hc : σ.ev c = some (.bool true)) (h : CWi l n P N x R σ w) : CWi l n P N (.cond c x y) R σ w := fun a ha => wpIn_cond_true (ha.agrees c _ hc) (h a ha)
theorem cwi_false {c : Operand} {x y : Code} (hc : σ.ev c = some (.bool false)) (h : CWi l n P N y R σ w) : CWi l n P N (.cond c x y) R σ w := fun a ha => wpIn_cond_false (ha.agrees c _ hc) (h a ha)
theorem cwi_region {id : Nat} {os : List Oper} (hd : noDefer os = true) (hR : ∀ N w, ¬ R .outgrown N [] w) (h : WL P N os.toArray R os σ w) : CWi l n P N (.region id os.toArray false) R σ w :=
  fun a ha => wpIn_region_lit (list_in (fun h => by obtain ⟨_, w', N', h⟩ := h; exact hR N' w' h) os a w hd (h a ha))
end
def onlyR (N0 : NN) (Φ : Env → World → Prop) : Post
  | .normal, N, σ, w => N = N0 ∧ Φ σ w
  | _, _, _, _ => False
theorem nrm_only {N : NN} {σ : Env} {w : World} {Φ : Env → World → Prop} (h : Φ σ w) : onlyR N Φ .normal N σ w := ⟨rfl, h⟩
def roundR {α : Type} (B n0 : Nat) (I : List α → World → Prop) (Ix : Code → List α → World → Prop) (xs : List α) (W : World) : Post
  | .normal, _, _, W' => KeepsFrom B W W' ∧ Below n0 W W' ∧ I xs W'
  | .ret, _, _, W' => KeepsFrom B W W' ∧ Ix .ret xs W'
  | .exit id, _, _, W' => KeepsFrom B W W' ∧ Ix (.exit id) xs W'
  | .goto t, _, _, W' => KeepsFrom B W W' ∧ Ix (.goto t) xs W'
  | _, _, _, _ => False
theorem keeps_evo {X : List Nat} {B : Nat} {w w' : World} (h : Evo X w w') (hx : ∀ b, b ∈ X → b < B ∨ ∃ cs t fz, w.heap[b]? = some (.cells cs t fz)) : KeepsFrom B w w' := by
  refine ⟨h.size, fun k o hB hk ho => ?_⟩
  by_cases hm : k ∈ X
  · rcases hx k hm with h1 | ⟨cs, t, fz, h1⟩
    · omega
    · rw [h1] at hk; cases hk; simp [Obj.isCells] at ho
  · exact h.blk hk hm
theorem enters_goes {P : Program} {f : FuncId} (h : Goes P f) : ∀ args w, (callFunc f args).run P w = .ok (.enter f args) w := fun args w => by
  obtain ⟨fn, hf, hn, hb⟩ := h
  have hn' : ¬ fn.name = "runtime.NumGoroutine" := by simpa using hn
  have hb' : ¬ fn.body = none := by intro hh; simp [hh] at hb
  simp [callFunc, hf, hn', hb']
/-- A range over a function, one loop variable that lies in a box. -/
theorem cw_rangeFunc {α : Type} {P : Program} {N : NN} {R : Post} {σ : Env} {w : World} {g : Operand} {p dv : Tmp} {assign body : Code} {gf : Nat} {lb : Array Value} {enc : α → Value} {S Sp : List α → Prop} {K n0 : Nat}
    (hg : σ.ev g = some (.func (.func gf) #[] lb)) (eg : ∀ args w, (callFunc gf args).run P w = .ok (.enter gf args) w) (hp : Nat.blt p N.1 = true)
    (hseq : SeqStopsK Fence.wide 4 P gf lb (fun x => #[enc x]) (Below n0) S Sp K w) (hn0 : n0 ≤ w.heap.size)
    (I : List α → World → Prop) (Ix : Code → List α → World → Prop) (hI : OwnFrom w.heap.size I) (hIx : ∀ c, OwnFrom w.heap.size (Ix c)) (h0 : I [] w)
    (AX : α → Nat → World → Prop) (hAX : ∀ x bx, OwnFrom w.heap.size (fun (_ : Unit) W => AX x bx W))
    (hassign : ∀ l pre x W, I pre W → CWi l 3 P (N.1, []) assign (onlyR (N.1, []) fun σ' W' => ∃ bx, σ' = (dv, .pointer (some ⟨bx, 0, none⟩)) :: (p, enc x) :: σ ∧ KeepsFrom w.heap.size W W' ∧ Below n0 W W' ∧ I pre W' ∧ AX x bx W') ((p, enc x) :: σ) W)
    (hbody : ∀ l pre x bx W, I pre W → AX x bx W → pre.length < K → CWi l 3 P (N.1, []) body (roundR w.heap.size n0 I Ix (pre ++ [x]) W) ((dv, .pointer (some ⟨bx, 0, none⟩)) :: (p, enc x) :: σ) W)
    (hdone : ∀ D xs W, w.heap.size ≤ D → S xs → I xs W → W.heap[D]? = some (.deferred (some [])) → R .normal (N.1, mark D :: N.2) σ W)
    (hstop : ∀ D c pre W, w.heap.size ≤ D → Sp pre → Ix c pre W → W.heap[D]? = some (.deferred (some [])) → CW P (N.1, mark D :: N.2) c R σ W) :
    CW P N (.rangeFunc g #[p] assign body) R σ w := by
  intro a ha
  refine (wpIn_wide (n := 5)).1 (wpIn_rangeFunc_ownH rfl (by omega) (ha.agrees g _ hg) trivial eg hseq belowK_t (belowK_b hn0) (Below.refl _ _) (fun _ => rfl) I Ix hI hIx h0
    (fun x a' W => ∃ bx, Fits (N.1, []) ((dv, .pointer (some ⟨bx, 0, none⟩)) :: (p, enc x) :: σ) a' ∧ AX x bx W) ?_ ?_ ?_ ?_ ?_)
  · rintro x a' s A B row ⟨bx, hf, hs⟩ hg' hr
    exact ⟨bx, hf, hAX x bx s A B row hs hg' hr⟩
  · intro l pre x W K' hi hK
    have hf : Fits (N.1, []) ((p, enc x) :: σ) { tmps := ((#[p] : Array Tmp).zip #[enc x]).foldl (fun t (p, v) => t.setIfInBounds p v) a.tmps, defers := [] } := by
      have h1 : Fits (N.1, []) σ { tmps := a.tmps, defers := [] } := ⟨ha.1, rfl, ha.2.2⟩
      have h2 := h1.put (d := p) (of_decide_eq_true (by simpa using hp)) (enc x)
      simpa [Act.put] using h2
    refine wpIn_mono (hassign l pre x W hi _ hf) ?_
    intro e a' w' hq
    cases e with
    | normal => obtain ⟨N', σ', hf', rfl, bx, rfl, h1, h2, h3, h4⟩ := hq; exact hK _ _ h1 h2 h3 ⟨bx, hf', h4⟩
    | exit i => obtain ⟨_, _, _, hk⟩ := hq; exact hk.elim
    | goto i => obtain ⟨_, _, _, hk⟩ := hq; exact hk.elim
    | ret => obtain ⟨_, _, _, hk⟩ := hq; exact hk.elim
    | panic i => obtain ⟨_, _, hk⟩ := hq; exact hk.elim
    | outgrown => obtain ⟨_, hk⟩ := hq; exact hk.elim
  · rintro l pre x a' W _ _ hi ⟨bx, hf, hax⟩ hlt
    refine wpIn_mono (hbody l pre x bx W hi hax hlt a' hf) ?_
    intro e a' w' hq
    cases e with
    | normal => obtain ⟨N', σ', hf', hk⟩ := hq; exact hk
    | exit i => obtain ⟨_, _, _, hk⟩ := hq; exact hk
    | goto i => obtain ⟨_, _, _, hk⟩ := hq; exact hk
    | ret => obtain ⟨_, _, _, hk⟩ := hq; exact hk
    | panic i => obtain ⟨_, _, hk⟩ := hq; exact hk.elim
    | outgrown => obtain ⟨_, hk⟩ := hq; exact hk.elim
  · intro D xs W hD hS hi hK
    exact ⟨(N.1, mark D :: N.2), σ, ⟨ha.1, by rw [ha.2.1], ha.2.2⟩, hdone D xs W hD hS hi hK⟩
  · intro D c pre W hD hS hi hK
    exact wpIn_wide.2 (hstop D c pre W hD hS hi hK _ ⟨ha.1, by rw [ha.2.1], ha.2.2⟩)

/-! ### An iterator: the call of yield -/
/-- As WL, in the words that know a round. -/
def WLy (n : Nat) (P : Program) (N : NN) (ops : Array Oper) (R : Post) (l : List Oper) (σ : Env) (w : World) : Prop := ∀ a, Fits N σ a → wpListIn Fence.wide n P ops (toQ R) l a w
section
variable {P : Program} {N : NN} {R : Post} {σ : Env} {w w' : World} {ops : Array Oper} {rest : List Oper} {n d : Nat} {op : Op} {T : TypeId} {pos : String} {after : Array Edge}
theorem cw_regionY {id : Nat} {l : List Oper} (h : WLy n P N l.toArray R l σ w) : CW P N (.region id l.toArray false) R σ w := fun a ha => wpIn_wide.1 (wpIn_region_lit (h a ha))
theorem wly_nil (h : R .normal N σ w) : WLy n P N ops R [] σ w := fun _ ha => wpListIn_nil ⟨N, σ, ha, h⟩
theorem wly_val {r : Value} (hd : Nat.blt d N.1 = true) (hx : Ex P σ ⟨some d, op, T, pos, after, none⟩ w r w') (h : WLy n P N ops R rest ((d, r) :: σ) w') :
    WLy n P N ops R (⟨some d, op, T, pos, after, none⟩ :: rest) σ w := fun a ha => wpListIn_plain rfl fun K hK => by
  refine ⟨fun _ _ => trivial, ?_⟩
  show Oper.uponIn _ _ _ _ _ _ _ ((execOp a.eval _).run P w)
  rw [hx a.eval ha.agrees]
  exact hK _ _ (h _ (ha.put (of_decide_eq_true (by simpa using hd)) r))
theorem wly_yield {f x : Operand} {ats : Array TypeId} {l : Nat} {v : Value} {E : Ending → World → Prop} (hd : Nat.blt d N.1 = true) (hf : σ.ev f = some (.func (.yield l) #[] #[])) (hx : σ.ev x = some v) (hY : YieldAt Fence.wide (n - 1) P l #[v] w E)
    (hE : ∀ e w', E e w' → ∃ u, e = .returned u ∧ WLy n P N ops R rest ((d, u) :: σ) w') :
    WLy n P N ops R (⟨some d, .call ⟨.value f, #[x], ats⟩, T, pos, after, none⟩ :: rest) σ w := fun a ha => wpListIn_plain rfl fun K hK => by
  obtain ⟨fn, tmps, assign, body, hy, hR⟩ := hY
  refine ⟨fun _ _ => trivial, ?_⟩
  have h1 : (execOp a.eval (⟨some d, .call ⟨.value f, #[x], ats⟩, T, pos, after, none⟩ : Oper)).run P w = .ok (.round l fn tmps assign body) w := by
    simp [execOp, resolve, Deferred.ofValue, ha.agrees f _ hf, ha.agrees x _ hx, invoke, hy]
  rw [Oper.semAt_eq _ _ _ (by intro c hc; cases hc), h1]
  refine ⟨fun h => by simp [Fence.wide] at h, hR.mono ?_⟩
  intro e w' he
  obtain ⟨u, rfl, h2⟩ := hE e w' he
  exact hK _ _ (h2 _ (ha.put (of_decide_eq_true (by simpa using hd)) u))
end
theorem evo_grown {w w' : World} (h : Evo [] w w') : w.grownBy w' none := ⟨h.os, h.tape, h.output, h.size, fun b hb _ => h.block b hb (by simp)⟩
/-- The blocks from a number on. -/
def XB (n0 : Nat) (w : World) : List Nat := (List.range w.heap.size).filter fun b => decide (n0 ≤ b)
theorem mem_xb {n0 b : Nat} {w : World} : b ∈ XB n0 w ↔ b < w.heap.size ∧ n0 ≤ b := by simp [XB]
theorem below_xb {n0 : Nat} {w w' : World} (h : Below n0 w w') : Evo (XB n0 w) w w' := ⟨h.os, h.tape, h.output, h.size, fun b hb hx => h.block b (by
  by_cases h1 : n0 ≤ b
  · exact absurd (mem_xb.2 ⟨hb, h1⟩) hx
  · omega)⟩
theorem xb_below {n0 : Nat} {w w' : World} (h : Evo (XB n0 w) w w') (hn : n0 ≤ w.heap.size) : Below n0 w w' := ⟨h.os, h.tape, h.output, h.size, fun b hb => h.block b (by omega) (fun hm => by have := (mem_xb.1 hm).2; omega)⟩
theorem xb_then {n0 : Nat} {w w1 w2 : World} (h : Evo (XB n0 w) w w1) (k : Below n0 w1 w2) (hn : n0 ≤ w.heap.size) : Evo (XB n0 w) w w2 := below_xb ((xb_below h hn).trans k)
theorem xb_step {n0 : Nat} {w w' : World} (h : w.heap.size ≤ w'.heap.size) : ∀ y, y ∈ XB n0 w' → y ∈ XB n0 w ∨ w.heap.size ≤ y := fun y hy => by
  have := mem_xb.1 hy
  by_cases h1 : y < w.heap.size
  · exact .inl (mem_xb.2 ⟨h1, this.2⟩)
  · exact .inr (by omega)
theorem evo_below' {X : List Nat} {n0 : Nat} {w w' : World} (h : Evo X w w') (hx : ∀ b, b ∈ X → n0 ≤ b) (hn : n0 ≤ w.heap.size) : Below n0 w w' := ⟨h.os, h.tape, h.output, h.size, fun b hb => h.block b (by omega) (fun hm => by have := hx b hm; omega)⟩
theorem ex_max {P : Program} {σ : Env} {w : World} {dst : Option Nat} {T : TypeId} {pos : String} {after : Array Edge} {g : Option (Nat × Bool)} {x y : Operand} {ats : Array TypeId} {k k' : IntKind} {m n : Int} (hx : σ.ev x = some (.int k m)) (hy : σ.ev y = some (.int k' n)) :
    Ex P σ ⟨dst, .call ⟨.builtin .max, #[x, y], ats⟩, T, pos, after, g⟩ w (.int k (if m < n then n else m)) w := fun ρ h => by
  simp [execOp, resolve, h x _ hx, h y _ hy, invoke, builtin, run_max_int2]
/-- Blocks of cells abide what is done to other objects. -/
theorem own_turn {e : TypeId} {sz : Nat} {a : Option Addr} {n c : Nat} {xs : List Value} {ob : Option Nat} {W W' : World} {row : Option Nat} (h : OwnS W e sz a n c xs ob) (hg : W.grownBy W' row) (hr : ∀ r, row = some r → ∃ o : Obj, W.heap[r]? = some o ∧ o.isCells = false) : OwnS W' e sz a n c xs ob := by
  refine ⟨h.1, ?_⟩
  rcases h.2 with h1 | ⟨g, cap, cur, hg1, hv, hb, hn, hc, hs, ht⟩
  · exact .inl h1
  · refine .inr ⟨g, cap, cur, hg1, hv, ?_, hn, hc, hs, ht⟩
    rw [hg.block g (blk_lt hb) (fun e => by obtain ⟨o, ho, hf⟩ := hr g e.symm; rw [hb] at ho; cases ho; simp [Obj.isCells] at hf)]
    exact hb
theorem blk_turn {b : Nat} {cs : Array Value} {t : TypeId} {fz : Nat × Nat} {W W' : World} {row : Option Nat} (hb : W.heap[b]? = some (.cells cs t fz)) (hg : W.grownBy W' row) (hr : ∀ r, row = some r → ∃ o : Obj, W.heap[r]? = some o ∧ o.isCells = false) : W'.heap[b]? = some (.cells cs t fz) := by
  rw [hg.block b (blk_lt hb) (fun e => by obtain ⟨o, ho, hf⟩ := hr b e.symm; rw [hb] at ho; cases ho; simp [Obj.isCells] at hf)]
  exact hb
theorem evo_turn {X : List Nat} {w W W' : World} {row : Option Nat} (h : Evo X w W) (hg : W.grownBy W' row) (hr : ∀ r, row = some r → w.heap.size ≤ r) : Evo X w W' :=
  h.step (Evo.of_grown hg) (fun y hy => .inr (hr y (by simpa using hy)))
end Go.W
