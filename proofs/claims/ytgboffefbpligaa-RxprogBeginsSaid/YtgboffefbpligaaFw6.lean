/- The layer, sixth part: strings: an element, a part, a sum, a range over the runes; the smaller of two. -/
import Derived.Test.YtgboffefbpligaaFw5
import Derived.Laws.RangeAny
import Derived.Laws.Strings2
import Derived.Laws.Slices
import Derived.Laws.Small
import Derived.Laws.Concat
import Derived.Lib.DecodeN
import Derived.Scope
namespace Go.W
set_option linter.unusedSimpArgs false
set_option linter.unusedVariables false

/-- The byte at a place (behind the end: 0). -/
def sb (s : ByteArray) (n : Nat) : Nat := (s.get! n).toNat
theorem sb_lt (s : ByteArray) (n : Nat) : sb s n < 256 := (s.get! n).toNat_lt
theorem sb_get (s : ByteArray) (n : Nat) (h : n < s.size) : sb s n = (s[n]'h).toNat := by
  unfold sb
  simp [ByteArray.get!, getElem!_pos, h]
  rfl

section
variable {P : Program} {σ : Env} {w : World} {dst : Option Nat} {T : TypeId} {pos : String} {after : Array Edge} {g : Option (Nat × Bool)}
/-- s[n]. -/
theorem ex_sidx {x i : Operand} {t : TypeId} {k : IntKind} {s : ByteArray} {z : Int} {n : Nat} (hx : σ.ev x = some (.string s)) (hi : σ.ev i = some (.int k z)) (ht : P.underlying t = some .string) (hz : z = (n : Int)) (hn : n < s.size) :
    Ex P σ ⟨dst, .index t x i, T, pos, after, g⟩ w (.int .u8 (sb s n : Nat)) w := fun ρ h => by
  subst hz
  have hc : 0 ≤ (n : Int) ∧ (n : Int) < s.size := ⟨by omega, by omega⟩
  have := run_index_string (P := P) w t s k n ht
  rw [dif_pos hc] at this
  simp only [execOp, h x _ hx, h i _ hi, Sem.run_bind, this, Result.andThen_ok, Sem.run_pure, sb_get s n hn]
  rfl
/-- s[l:h]. -/
theorem ex_ssub {x lo hi : Operand} {t : TypeId} {s : ByteArray} {lv hv : Int} {l h : Nat} (hx : σ.ev x = some (.string s)) (hlo : σ.ev lo = some (.int .i64 lv)) (hhi : σ.ev hi = some (.int .i64 hv)) (ht : P.underlying t = some .string) (hl : lv = (l : Int)) (hh : hv = (h : Int)) (hlh : l ≤ h) (hhc : h ≤ s.size) :
    Ex P σ ⟨dst, .slice t x (some lo) (some hi) none, T, pos, after, g⟩ w (.string (s.extract l h)) w := fun ρ hρ => by
  subst hl hh
  have := run_slice_string (P := P) w t s .i64 .i64 (l : Int) (h : Int) ht (by omega) (by omega) (by omega)
  simp only [execOp, hρ x _ hx, Option.map_some, Option.map_none, hρ lo _ hlo, hρ hi _ hhi, Instr.sliceAt, run_underlying ht, Sem.run_bind, Result.andThen_ok, this, Int.toNat_natCast, Sem.run_pure]
/-- a + b. -/
theorem ex_sadd {x y : Operand} {t t' : TypeId} {a b : ByteArray} (hx : σ.ev x = some (.string a)) (hy : σ.ev y = some (.string b)) (hab : a.size + b.size ≤ 9223372036854775807) :
    Ex P σ ⟨dst, .binOp .add t x y t', T, pos, after, g⟩ w (.string (a ++ b)) w := fun ρ h => by
  simp [execOp, h x _ hx, h y _ hy, eqGuard, Go.binOp, run_string_add_sum (P := P) w a b hab]
/-- A number that fits, in another kind. -/
theorem ex_convB {x : Operand} {t t' : TypeId} {k k' : IntKind} {z : Int} (n : Nat) (hx : σ.ev x = some (.int k z)) (ht : P.underlying t = some (.int k)) (ht' : P.underlying t' = some (.int k')) (hz : z = (n : Int)) (h2 : (n : Int) ≤ k'.max) :
    Ex P σ ⟨dst, .convert t t' x, T, pos, after, g⟩ w (.int k' (n : Nat)) w := by
  subst hz
  exact ex_convF hx ht ht' (by cases k' <;> simp [IntKind.min, IntKind.signed, IntKind.bits] <;> omega) h2
/-- The smaller of two. -/
theorem ex_min {x y : Operand} {ats : Array TypeId} {k k' : IntKind} {m n : Int} (hx : σ.ev x = some (.int k m)) (hy : σ.ev y = some (.int k' n)) :
    Ex P σ ⟨dst, .call ⟨.builtin .min, #[x, y], ats⟩, T, pos, after, g⟩ w (.int k (if n < m then n else m)) w := fun ρ h => by
  simp [execOp, resolve, h x _ hx, h y _ hy, invoke, builtin, run_min_int2]
end

section
variable {P : Program} {N : NN} {R : Post} {σ : Env} {w : World} {ops : Array Oper} {rest : List Oper} {d : Nat} {T : TypeId} {pos : String} {after : Array Edge}
theorem wl_rangeS {x : Operand} {t : TypeId} {s : ByteArray} (hd : Nat.blt d N.1 = true) (hx : σ.ev x = some (.string s)) (ht : P.underlying t = some .string)
    (h : ∀ b w', w'.heap[b]? = some (.stringIter s 0) → w.heap.size = b → Evo [] w w' → WL P N ops R rest ((d, .pointer (some ⟨b, 0, none⟩)) :: σ) w') :
    WL P N ops R (⟨some d, .range t x, T, pos, after, none⟩ :: rest) σ w := by
  refine wl_val (w' := w.alloc (.stringIter s 0)) hd (fun ρ ha => ?_) (h _ _ (alloc_blk w _) rfl (evo_alloc w _))
  simp only [execOp, ha x _ hx, Sem.run_bind, run_range_string w t s ht, Result.andThen_ok, Sem.run_pure]
  rfl
theorem evo_setObj (w : World) (b : Nat) (o : Obj) : Evo [b] w { w with heap := w.heap.setIfInBounds b o } :=
  ⟨rfl, rfl, rfl, by simp, fun k _ hx => by
    have : b ≠ k := fun e => hx (by simp [e])
    simp [Array.getElem?_setIfInBounds_ne this]⟩
theorem wl_nextS {x : Operand} {s : ByteArray} {b p : Nat} (hd : Nat.blt d N.1 = true) (hx : σ.ev x = some (.pointer (some ⟨b, 0, none⟩))) (hb : w.heap[b]? = some (.stringIter s p)) (hp : p < s.size)
    (h : ∀ w', w'.heap[b]? = some (.stringIter s (p + (Utf8.decode s p).2)) → Evo [b] w w' → WL P N ops R rest ((d, .tuple #[.bool true, .int .i64 (p : Nat), .int .i32 ((Utf8.decode s p).1 : Nat)]) :: σ) w') :
    WL P N ops R (⟨some d, .next x true, T, pos, after, none⟩ :: rest) σ w := by
  have hlt : b < w.heap.size := blk_lt hb
  refine wl_val (w' := { w with heap := w.heap.setIfInBounds b (.stringIter s (p + (Utf8.decode s p).2)) }) hd (fun ρ ha => ?_) (h _ (by simp [hlt]) (evo_setObj w b _))
  simp only [execOp, ha x _ hx, Instr.next, getObj, setObj, Sem.run_bind, Sem.run, hb, Result.andThen, hp, if_true]
  simp [goInt, Sem.run]
theorem wl_nextE {x : Operand} {s : ByteArray} {b p : Nat} (hd : Nat.blt d N.1 = true) (hx : σ.ev x = some (.pointer (some ⟨b, 0, none⟩))) (hb : w.heap[b]? = some (.stringIter s p)) (hp : ¬ p < s.size)
    (h : WL P N ops R rest ((d, .tuple #[.bool false]) :: σ) w) :
    WL P N ops R (⟨some d, .next x true, T, pos, after, none⟩ :: rest) σ w := by
  refine wl_val (w' := w) hd (fun ρ ha => ?_) h
  simp only [execOp, ha x _ hx, Instr.next, getObj, setObj, Sem.run_bind, Sem.run, hb, Result.andThen, hp, if_false]
  simp [goInt, Sem.run]
end

/-! ### A slice of one's own, cut short -/
section
variable {P : Program} {σ : Env} {w : World} {dst : Option Nat} {T : TypeId} {pos : String} {after : Array Edge} {g : Option (Nat × Bool)}
theorem OwnS.pop {e : TypeId} {sz m c : Nat} {a : Option Addr} {xs r : List Value} {ob : Option Nat} (h : OwnS w e sz a (m + 1) c (xs ++ r) ob) (hr : r.length = sz) : OwnS w e sz a m c xs ob := by
  have h1 := h.1
  rw [List.length_append, hr, Nat.add_mul] at h1
  have h2 : xs.length = m * sz := by omega
  refine ⟨h2, ?_⟩
  rcases h.2 with ⟨_, h3, _⟩ | ⟨g, cap, cur, hg, hv, hb, hn, hc, hs, ht⟩
  · omega
  · cases hv
    refine .inr ⟨g, c, cur, hg, rfl, hb, by omega, hc, hs, ?_⟩
    have h4 := congrArg (List.take (m * sz)) ht
    rw [List.take_take, Nat.min_eq_left (Nat.mul_le_mul_right _ (by omega)), ← h2, List.take_left] at h4
    rw [← h2]; exact h4
theorem OwnS.top {e : TypeId} {sz m c : Nat} {a : Option Addr} {xs r : List Value} {ob : Option Nat} (h : OwnS w e sz a (m + 1) c (xs ++ r) ob) (hr : r.length = sz) : ∃ g, ob = some g ∧ a = some ⟨g, 0, none⟩ ∧ CellsAt w g (0 + m * sz) r := by
  obtain ⟨g, hg, ha, hc⟩ := h.cells (by omega)
  refine ⟨g, hg, ha, fun j v hj => ?_⟩
  have h2 := h.pop hr
  have := hc (m * sz + j) v (by rw [List.getElem?_append_right (by rw [h2.1]; omega), h2.1]; simpa using hj)
  rw [show 0 + (m * sz + j) = 0 + m * sz + j by omega] at this
  exact this
theorem OwnS.get1 {e : TypeId} {n c k b : Nat} {xs : List Value} {ob : Option Nat} {v : Value} (h : OwnS w e 1 (some ⟨b, 0, none⟩) n c xs ob) (hv : xs[k]? = some v) : w.cell? ⟨b, 0 + k * 1, none⟩ = some v := by
  have hk := (List.getElem?_eq_some_iff.1 hv).1
  rw [h.1] at hk
  obtain ⟨g, _, ha, hc⟩ := h.cells (by omega)
  cases ha
  have := hc k v hv
  rw [show 0 + k * 1 = 0 + k by omega]
  exact this
/-- s[:h] of a slice of one's own. -/
theorem ex_ownTo {x hi : Operand} {t e e' : TypeId} {sz sz' len c h : Nat} {a : Option Addr} {xs : List Value} {ob : Option Nat} {w1 : World} {hv : Int} (hO : OwnS w1 e' sz' a len c xs ob) (hx : σ.ev x = some (.slice a len c)) (hhi : σ.ev hi = some (.int .i64 hv)) (ht : P.underlying t = some (.slice e)) (hs : sizeB P e = some sz)
    (hh : hv = (h : Int)) (hhc : h ≤ c) : Ex P σ ⟨dst, .slice t x none (some hi) none, T, pos, after, g⟩ w (.slice a h c) w := by
  have h1 := ex_slice (P := P) (σ := σ) (w := w) (dst := dst) (T := T) (pos := pos) (after := after) (g := g) (lo := none) (hi := some hi) (l := 0) (h := h) (lv := none) (hv := some hv) hx ht hs rfl (by simp [hhi]) rfl (by simpa using hh) (Nat.zero_le _) hhc hO.le
  have ha := own_addr hO
  have e1 : (if c = 0 then a else a.map (·.add (0 * sz))) = a := by
    subst ha
    split
    · rfl
    · cases ob with
      | none => rfl
      | some g => simp [Addr.add]
  rw [e1] at h1
  exact h1
end

/-! ### A scope without jumps -/
def scopeR (R : Post) : Post
  | .goto _, _, _, _ => False
  | .normal, N, σ, w => R .normal N σ w
  | .exit i, N, σ, w => R (.exit i) N σ w
  | .ret, N, σ, w => R .ret N σ w
  | .panic c, N, σ, w => R (.panic c) N σ w
  | .outgrown, N, σ, w => R .outgrown N σ w
section
variable {P : Program} {N : NN} {R : Post} {σ : Env} {w : World}
theorem cw_scope {c : Code} (h : CW P N c (scopeR R) σ w) : CW P N (.scope c) R σ w := by
  intro a ha
  refine wp_scope_straight (wp_mono (h a ha) ?_)
  intro e a' w' hq
  cases e with
  | goto l => obtain ⟨_, _, _, hk⟩ := hq; exact hk
  | normal => exact hq
  | exit i => exact hq
  | ret => exact hq
  | panic c => exact hq
  | outgrown => exact hq
theorem nrm_scope (h : R .normal N σ w) : scopeR R .normal N σ w := h
theorem ret_scope (h : R .ret N σ w) : scopeR R .ret N σ w := h
theorem ex_scope {i : Nat} (h : R (.exit i) N σ w) : scopeR R (.exit i) N σ w := h
end

/-! ### The rune at a place -/
/-- The rune that begins at a place, and its width; -1 and 0: none. -/
def nextR (s : ByteArray) (n : Nat) : Int × Nat :=
  if n < s.size ∧ ¬ ((Utf8.decode s n).1 = 65533 ∧ (Utf8.decode s n).2 = 1) then (((Utf8.decode s n).1 : Nat), (Utf8.decode s n).2) else (-1, 0)
end Go.W
