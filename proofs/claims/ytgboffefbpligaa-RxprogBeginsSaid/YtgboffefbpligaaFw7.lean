/- The layer, seventh part: cap, clear, an append of zeros to nil; a slice of one's own from a place on. -/
import Derived.Test.YtgboffefbpligaaFw6
namespace Go.W
set_option linter.unusedSimpArgs false
set_option linter.unusedVariables false
section
variable {P : Program} {N : NN} {ops : Array Oper} {R : Post} {rest : List Oper} {σ : Env} {w w' : World} {d : Nat} {op : Op} {dst : Option Nat} {T : TypeId} {pos : String} {after : Array Edge} {g : Option (Nat × Bool)}
theorem ex_cap_slice {x : Operand} {ats : Array TypeId} {t e : TypeId} {a : Option Addr} {n c : Nat} (hx : σ.ev x = some (.slice a n c)) (ht : P.underlying t = some (.slice e)) (hats : ats = #[t]) :
    Ex P σ ⟨dst, .call ⟨.builtin .cap, #[x], ats⟩, T, pos, after, g⟩ w (.int .i64 c) w := fun ρ h => by
  subst hats
  simp [execOp, resolve, h x _ hx, invoke, builtin, Builtin.cap_, run_underlying ht, goInt]
theorem wl_val0 {r : Value} (hx : Ex P σ ⟨none, op, T, pos, after, none⟩ w r w') (h : WL P N ops R rest σ w') :
    WL P N ops R (⟨none, op, T, pos, after, none⟩ :: rest) σ w := fun a ha => wpList_plain rfl fun K hK => by
  unfold Oper.wp
  rw [hx a.eval ha.agrees]
  exact hK _ _ (h _ ha)
/-- s[l:] of a slice of one's own. -/
theorem ex_ownFrom {x lo : Operand} {t e e' : TypeId} {sz sz' len c l : Nat} {a : Option Addr} {xs : List Value} {ob : Option Nat} {w1 : World} {lv : Int} (hO : OwnS w1 e' sz' a len c xs ob) (hx : σ.ev x = some (.slice a len c)) (hlo : σ.ev lo = some (.int .i64 lv)) (ht : P.underlying t = some (.slice e)) (hs : sizeB P e = some sz)
    (hl : lv = (l : Int)) (hle : l ≤ len) : Ex P σ ⟨dst, .slice t x (some lo) none none, T, pos, after, g⟩ w (.slice (if c = l then a else a.map (·.add (l * sz))) (len - l) (c - l)) w :=
  ex_slice (P := P) (σ := σ) (w := w) (dst := dst) (T := T) (pos := pos) (after := after) (g := g) (lo := some lo) (hi := none) (l := l) (h := len) (lv := some lv) (hv := none) hx ht hs (by simp [hlo]) rfl (by simpa using hl) rfl hle hO.le hO.le
theorem ex_sliceFrom {x lo : Operand} {t e : TypeId} {sz len c l : Nat} {a : Option Addr} {lv : Int} (hx : σ.ev x = some (.slice a len c)) (hlo : σ.ev lo = some (.int .i64 lv)) (ht : P.underlying t = some (.slice e)) (hs : sizeB P e = some sz)
    (hl : lv = (l : Int)) (hle : l ≤ len) (hlen : len ≤ c) : Ex P σ ⟨dst, .slice t x (some lo) none none, T, pos, after, g⟩ w (.slice (if c = l then a else a.map (·.add (l * sz))) (len - l) (c - l)) w :=
  ex_slice (P := P) (σ := σ) (w := w) (dst := dst) (T := T) (pos := pos) (after := after) (g := g) (lo := some lo) (hi := none) (l := l) (h := len) (lv := some lv) (hv := none) hx ht hs (by simp [hlo]) rfl (by simpa using hl) rfl hle hlen hlen
theorem ex_sliceTo {x hi : Operand} {t e : TypeId} {sz len c h : Nat} {a : Option Addr} {hv : Int} (hx : σ.ev x = some (.slice a len c)) (hhi : σ.ev hi = some (.int .i64 hv)) (ht : P.underlying t = some (.slice e)) (hs : sizeB P e = some sz)
    (hh : hv = (h : Int)) (hhc : h ≤ c) (hlen : len ≤ c) : Ex P σ ⟨dst, .slice t x none (some hi) none, T, pos, after, g⟩ w (.slice (if c = 0 then a else a.map (·.add (0 * sz))) h c) w :=
  ex_slice (P := P) (σ := σ) (w := w) (dst := dst) (T := T) (pos := pos) (after := after) (g := g) (lo := none) (hi := some hi) (l := 0) (h := h) (lv := none) (hv := some hv) hx ht hs rfl (by simp [hhi]) rfl (by simpa using hh) (Nat.zero_le _) hhc hlen
theorem mem_zeroCells {v u : Value} {m : Nat} (h : u ∈ (Builtin.zeroCells #[v] m).toList) : u = v := by
  simp [Builtin.zeroCells, Nat.mod_one] at h
  obtain ⟨k, _, rfl⟩ := h
  rfl
/-- clear(s[i:]) of a slice of one's own, its elements of one cell. -/
theorem wl_clear {x : Operand} {ats : Array TypeId} {t e : TypeId} {n c i : Nat} {a : Option Addr} {xs : List Value} {ob : Option Nat} {z : Value} (hO : OwnS w e 1 a n c xs ob) (hi : i ≤ n)
    (hx : σ.ev x = some (.slice (if c = i then a else a.map (·.add (i * 1))) (n - i) (c - i))) (hats : ats = #[t]) (ht : P.underlying t = some (.slice e)) (hz : zeroB P e = some #[z]) (h1 : z.oneCell' = true)
    (h : ∀ w', OwnS w' e 1 a i c (xs.take i) ob → Evo ob.toList w w' → WL P N ops R rest σ w') :
    WL P N ops R (⟨none, .call ⟨.builtin .clear, #[x], ats⟩, T, pos, after, none⟩ :: rest) σ w := by
  subst hats
  have hlen := hO.length
  by_cases hn : n - i = 0
  · obtain rfl : i = n := by omega
    refine wl_val0 (w' := w) (r := .tuple #[]) (fun ρ ha => ?_) (h w (by rw [List.take_of_length_le (by omega)]; exact hO) (Evo.refl _ _))
    rw [Nat.sub_self] at hx
    have := ha x _ hx
    simp only [execOp, resolve, Sem.run_bind, Sem.run_pure, Result.andThen_ok]
    generalize (if c = i then a else a.map (·.add (i * 1))) = q at this
    cases q <;> simp [execOp, resolve, this, invoke, builtin, Builtin.clear_, run_underlying ht]
  · obtain ⟨gb, cur, rfl, rfl, hb, hs, ht2⟩ := hO.at (by omega)
    have hle := hO.le
    rw [if_neg (by omega)] at hx
    have hadd : (⟨gb, 0, none⟩ : Addr).add (i * 1) = ⟨gb, i, none⟩ := by unfold Addr.add; split <;> simp_all
    simp only [Option.map_some, hadd] at hx
    obtain ⟨v, hv, hvz⟩ := Option.map_eq_some_iff.1 hz
    obtain ⟨ti, hti, htz⟩ := Option.bind_eq_some_iff.1 hv
    have hsz : (Builtin.zeroCells #[z] (n - i)).toList.length = n - i := by rw [Array.length_toList, size_zeroCells]; simp
    obtain ⟨w', hr, hb', he⟩ := run_storeCells (P := P) gb e (Builtin.zeroCells #[z] (n - i)).toList i 0 cur w hb (by rw [hsz]; omega) (fun u hu => by rw [mem_zeroCells hu]; exact h1)
    refine wl_val0 (w' := w') (r := .tuple #[]) (fun ρ ha => ?_) (h w' ⟨by simp; omega, .inr ⟨gb, c, _, rfl, rfl, hb', by omega, ?_, ?_, ?_⟩⟩ he)
    · have := ha x _ hx
      cases hm : n - i with
      | zero => omega
      | succ m =>
        rw [hm] at this hr
        simp [execOp, resolve, this, invoke, builtin, Builtin.clear_, run_underlying ht, zeroValue, typeInfo, hti, htz, hvz, hr]
    · rcases hO.2 with ⟨h2, _⟩ | ⟨_, _, _, _, h2, _, _, hc, _⟩
      · cases h2
      · cases h2; exact hc
    · simp only [List.size_toArray, List.length_append, List.length_take, List.length_drop, hsz, Array.length_toList]
      omega
    · rw [← ht2]
      simp only [Nat.add_zero, Nat.mul_one, List.append_assoc]
      rw [List.take_left' (by simp; omega), List.take_take, Nat.min_eq_left (by omega)]
theorem OwnS.cut {e : TypeId} {sz n m c : Nat} {a : Option Addr} {xs : List Value} {ob : Option Nat} (h : OwnS w e sz a n c xs ob) (hm : m ≤ n) : OwnS w e sz a m c (xs.take (m * sz)) ob := by
  have hl := h.length
  have hmn : m * sz ≤ n * sz := Nat.mul_le_mul_right _ hm
  refine ⟨by rw [List.length_take]; omega, ?_⟩
  rcases h.2 with ⟨h1, h2, h3⟩ | ⟨g, cap, cur, hg, hv, hb, hn, hc, hs, ht⟩
  · cases h1; exact .inl ⟨by rw [show m = 0 by omega], by omega, h3⟩
  · cases hv
    exact .inr ⟨g, c, cur, hg, rfl, hb, by omega, hc, hs, by rw [← ht, List.take_take, Nat.min_eq_left hmn]⟩
/-- append(nil, m zeros): memory of its own. -/
theorem wl_appendZ {s x : Operand} {t u e : TypeId} {ats : Array TypeId} {k : IntKind} {m : Nat} {mv : Int} {z : Value} {i : TypeInfo} (hd : Nat.blt d N.1 = true) (hs : σ.ev s = some (.slice none 0 0)) (hx : σ.ev x = some (.int .i64 mv)) (hats : ats = #[t, u])
    (hm : mv = (m : Int)) (h0 : 0 < m) (ht : P.underlying t = some (.slice e)) (hu : P.underlying u = some (.int k)) (hi : P.info? e = some i) (hz : i.zero = some z) (hs1 : i.size = 1) (hzs : z.cells.size = 1) (hb0 : 0 < i.bytes) (hb : m * i.bytes ≤ 140737488355328)
    (h : ∀ gb c w', OwnS w' e 1 (some ⟨gb, 0, none⟩) m c (Builtin.zeroCells z.cells m).toList (some gb) → w.heap.size = gb → Evo [] w w' → WL P N ops R rest ((d, .slice (some ⟨gb, 0, none⟩) m c) :: σ) w') :
    WL P N ops R (⟨some d, .call ⟨.builtin .append, #[s, x], ats⟩, T, pos, after, none⟩ :: rest) σ w := by
  subst hats hm
  have hmul : m ≤ m * i.bytes := Nat.le_mul_of_pos_right _ hb0
  have hfit := growslice_fits (need := 0 + m) (old := 0) (by omega) (by rw [Nat.zero_add]; exact hb)
  simp only [Nat.zero_add] at hfit
  have hge := grownCap_ge w m 0 e
  refine wl_val (r := .slice (some ⟨w.heap.size, 0, none⟩) m (grownCap w m 0 e)) (w' := w.drew.alloc (.cells (Builtin.zeroCells z.cells m ++ Builtin.zeroCells z.cells (grownCap w m 0 e - m)) e)) hd (fun ρ ha => ?_)
    (h w.heap.size (grownCap w m 0 e) _ ⟨by rw [Array.length_toList, size_zeroCells, hzs], .inr ⟨w.heap.size, _, _, rfl, rfl, heap_alloc_new w.drew _, hge, grownCap_le_maxLen w m 0 e (by unfold maxLen; omega), ?_, ?_⟩⟩ rfl ⟨rfl, rfl, rfl, by simp, fun k hk _ => RowKit.Below.heap_alloc w.drew _ k hk⟩)
  · have h1 := ha s _ hs
    have h2 := ha x _ hx
    have h3 : IntKind.i64.wrap (m : Int) = m := wrap_of (by simp [IntKind.min, IntKind.signed, IntKind.bits]; try omega) (by simp [IntKind.max, IntKind.signed, IntKind.bits]; try omega)
    have h4 : ¬ ((m : Int) * (i.bytes : Int) > 2 ^ 48) := by
      have : ((m * i.bytes : Nat) : Int) ≤ 140737488355328 := by omega
      rw [Int.natCast_mul] at this
      omega
    have hm0 : m ≠ 0 := by omega
    simp only [execOp, resolve, h1, h2, invoke, builtin, Builtin.append_, run_underlying ht, run_underlying hu, sizeOf, typeInfo, hi, Sem.run_bind, Sem.run_pure, Result.andThen_ok, run_program]
    simp [asInt, asIntOf, h3, h4, hi, hz, hs1, zeroValue, typeInfo, hm0, h1, h2, run_underlying ht, run_underlying hu, Builtin.append_, show ¬ ((m : Int) < 0) by omega, show ¬ (9223372036854775807 < (m : Int)) by omega, show ¬ (281474976710656 < Builtin.nextslicecap m 0 * i.bytes) by omega, Question.forced, run_firstCells_none, newRow, grownCap]
    intro h5; exact absurd h5 (by have h6 := h4; simp only [gt_iff_lt, show ((2 : Int) ^ 48) = 281474976710656 from rfl] at h6; exact h6)
  · simp only [Array.size_append, size_zeroCells, hzs]; omega
  · rw [Array.toList_append, List.take_left' (by rw [Array.length_toList, size_zeroCells, hzs])]
end
end Go.W
