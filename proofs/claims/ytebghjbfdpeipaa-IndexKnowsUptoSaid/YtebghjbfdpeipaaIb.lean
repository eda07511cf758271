/- From the shelf's words (a row laid, numbers drawn, blocks behind) to the layer's; lists that rise. -/
import Derived.Test.YtebghjbfdpeipaaIa
import Derived.Test.YtebghjbfdpeipaaSh
import Derived.Test.YtebghjbfdpeipaaFw6
namespace Go.Proofs.Ytebghjbfdpeipaa
open Go.Proofs Go.W
set_option linter.unusedVariables false
set_option linter.unusedSimpArgs false

abbrev iv (z : Int) : Value := .int .i64 z
def RZ : Rel Int := fun _ _ vs z => vs = [iv z]
theorem RZ.pers : RZ.Pers := fun _ _ _ _ _ _ h => h
theorem RZ.fresh : RZ.Fresh := fun _ _ _ _ _ _ h => h
theorem RZ.one : ∀ X w vs d, RZ X w vs d → ∀ u, u ∈ vs → u.oneCell' = true := fun _ _ _ _ h u hu => by cases h; simp at hu; subst hu; rfl
theorem own_rz {X : List Nat} {w : World} {e : TypeId} {a : Option Addr} {n c : Nat} {l : List Int} {ob : Option Nat} (h : OwnS w e 1 a n c (l.map iv) ob) (hx : ∀ g, ob = some g → g ∉ X) : RSl 1 RZ X w (.slice a n c) l := by
  have e1 : (l.map fun z => [iv z]).flatten = l.map iv := by clear h; induction l with | nil => rfl | cons z l ih => simpa using ih
  have hl := h.length
  rw [← e1] at h
  exact RSl.ofOwn h ⟨by simp, fun k h1 h2 => by simp only [List.getElem_map]; exact ⟨rfl, rfl⟩⟩ (by simpa using hl) hx
theorem own_n {w : World} {e : TypeId} {a : Option Addr} {n c : Nat} {l : List Int} {ob : Option Nat} (h : OwnS w e 1 a n c (l.map iv) ob) : n = l.length := by have := h.length; simpa using this.symm

/-! ### The shelf's worlds -/
theorem own_row {w w' : World} {v : Value} {n : Nat} {xs : List Value} (h : w'.ownsRow w.heap.size 3 1 v n xs) : ∃ a c ob, v = .slice a n c ∧ OwnS w' 3 1 a n c xs ob ∧ Ge w ob := by
  obtain ⟨hl, h⟩ := h
  rcases h with ⟨rfl, rfl⟩ | ⟨g, cap, cur, rfl, hg, hb, hn, hc, hs, ht⟩
  · exact ⟨none, 0, none, rfl, ⟨hl, .inl ⟨rfl, rfl, rfl⟩⟩, Ge.nil _⟩
  · exact ⟨_, cap, some g, rfl, ⟨hl, .inr ⟨g, cap, cur, rfl, rfl, hb, hn, hc, hs, ht⟩⟩, fun g' e => by cases e; exact hg⟩
theorem evo_below {w w' : World} (h : RowKit.Below w.heap.size w w') : Evo [] w w' := ⟨h.os, h.tape, h.output, h.size, fun b hb _ => h.block b hb⟩
theorem evo_row (w : World) (g n : Nat) (d : Array Int) (os : Array Obj) : Evo [g] w (Sort.grow (Sort.putRow (Value.int .i64) (Sort.ahead w n) g 0 d) os) := by
  refine ⟨rfl, rfl, rfl, ?_, fun b hb hx => ?_⟩
  · simp [Sort.grow, Sort.putRow, Sort.mapBlock, Sort.ahead]
  · have hne : g ≠ b := fun e => hx (by simp [e])
    simp only [Sort.grow, Sort.putRow, Sort.mapBlock, Sort.ahead]
    rw [Array.getElem?_append_left (by simpa using hb), Array.getElem?_modify, if_neg hne]
theorem row_blk {w : World} {g : Nat} {cur : Array Value} {e : TypeId} (hb : w.heap[g]? = some (.cells cur e (0, 0))) (n : Nat) (d : Array Int) (os : Array Obj) :
    (Sort.grow (Sort.putRow (Value.int .i64) (Sort.ahead w n) g 0 d) os).heap[g]? = some (.cells (Sort.putCells (Value.int .i64) 0 d cur) e (0, 0)) := by
  have hlt := blk_lt hb
  simp only [Sort.grow, Sort.putRow, Sort.mapBlock, Sort.ahead]
  rw [Array.getElem?_append_left (by simpa using hlt), Array.getElem?_modify, if_pos rfl, hb]
  rfl
theorem putCells_take (cur : Array Value) (ds : List Int) (m : Nat) (hm : m ≤ ds.length) (hc : ds.length ≤ cur.size) : (Sort.putCells (Value.int .i64) 0 ds.toArray cur).toList.take m = (ds.take m).map iv := by
  apply List.ext_getElem?
  intro k
  by_cases hk : k < m
  · rw [List.getElem?_take, if_pos hk]
    simp only [Sort.putCells, Array.getElem?_toList, Array.getElem?_mapIdx, List.getElem?_map, List.getElem?_take, if_pos hk]
    have h1 : k < cur.size := by omega
    have h2 : k < ds.length := by omega
    simp [h1, h2, iv, show k < 0 + ds.length by omega]
  · rw [List.getElem?_eq_none (by simp; omega), List.getElem?_eq_none (by simp; omega)]
/-- A slice of one's own whose row is laid anew: as long, or cut. -/
theorem own_laid {w : World} {e : TypeId} {g n c m : Nat} {xs : List Value} {ds : List Int} (h : OwnS w e 1 (some ⟨g, 0, none⟩) n c xs (some g)) (hd : ds.length = n) (hm : m ≤ n) (q : Nat) (os : Array Obj) :
    OwnS (Sort.grow (Sort.putRow (Value.int .i64) (Sort.ahead w q) g 0 ds.toArray) os) e 1 (some ⟨g, 0, none⟩) m c ((ds.take m).map iv) (some g) := by
  refine ⟨by simp; omega, ?_⟩
  rcases h.2 with ⟨h1, _⟩ | ⟨g', cap, cur, hg, hv, hb, hn, hc, hs, ht⟩
  · cases h1
  · cases hg; cases hv
    refine .inr ⟨g, c, _, rfl, rfl, row_blk hb q ds.toArray os, by omega, hc, by simpa [Sort.putCells] using hs, ?_⟩
    rw [Nat.mul_one]
    exact putCells_take cur ds m (by omega) (by omega)
theorem own_holds {w : World} {e : TypeId} {g n c : Nat} {zs : List Int} (h : OwnS w e 1 (some ⟨g, 0, none⟩) n c (zs.map iv) (some g)) : Sort.Holds (Value.int .i64) w g 0 zs.toArray := fun j hj => by
  have hj' : j < zs.length := by simpa using hj
  have hn := own_n h
  obtain ⟨g', cur, hg, ha, hb, hs, ht⟩ := h.at (by omega)
  cases hg
  constructor
  · refine cell_blk hb ?_
    have h1 : (cur.toList.take (n * 1))[j]? = some (iv zs[j]) := by rw [ht]; simp [hj']
    rw [List.getElem?_take, if_pos (by omega)] at h1
    rw [Nat.zero_add]
    simpa [hj'] using h1
  · simp [World.frozen?, hb]
theorem own_cells {w : World} {e : TypeId} {g n c : Nat} {zs : List Int} {ob : Option Nat} (h : OwnS w e 1 (some ⟨g, 0, none⟩) n c (zs.map iv) ob) : ∀ j, j < zs.length → w.cell? ⟨g, 0 + j, none⟩ = some (.int .i64 (zs.getD j 0)) := fun j hj => by
  have hn := own_n h
  obtain ⟨g', hg, ha, hc⟩ := h.cells (by omega)
  cases ha
  have := hc j (iv zs[j]) (by simp [hj])
  simpa [hj] using this

/-! ### Lists that rise -/
def SR (l : List Int) : Prop := l.Pairwise (· < ·)
theorem SR.ext : ∀ {l r : List Int}, SR l → SR r → (∀ x, x ∈ l ↔ x ∈ r) → l = r
  | [], [], _, _, _ => rfl
  | [], y :: r, _, _, h => absurd ((h y).2 (List.mem_cons_self ..)) (by simp)
  | x :: l, [], _, _, h => absurd ((h x).1 (List.mem_cons_self ..)) (by simp)
  | x :: l, y :: r, hl, hr, h => by
    have hl1 := List.pairwise_cons.1 hl
    have hr1 := List.pairwise_cons.1 hr
    have hxy : x = y := by
      have h1 := (h x).1 (List.mem_cons_self ..)
      have h2 := (h y).2 (List.mem_cons_self ..)
      rcases List.mem_cons.1 h1 with h1 | h1
      · exact h1
      · rcases List.mem_cons.1 h2 with h2 | h2
        · exact h2.symm
        · have := hr1.1 x h1
          have := hl1.1 y h2
          omega
    subst hxy
    congr 1
    refine SR.ext hl1.2 hr1.2 fun z => ⟨fun hz => ?_, fun hz => ?_⟩
    · rcases List.mem_cons.1 ((h z).1 (List.mem_cons_of_mem _ hz)) with e | e
      · subst e; have := hl1.1 z hz; omega
      · exact e
    · rcases List.mem_cons.1 ((h z).2 (List.mem_cons_of_mem _ hz)) with e | e
      · subst e; have := hr1.1 z hz; omega
      · exact e
theorem compact_sr {zs : List Int} (hs : zs.Pairwise (· ≤ ·)) : SR (Lib.compact zs) ∧ ∀ x, x ∈ Lib.compact zs ↔ x ∈ zs := by
  have hle : ∀ i j (hi : i < zs.length) (hj : j < zs.length), i ≤ j → zs[i] ≤ zs[j] := fun i j hi hj hij => by
    rcases Nat.lt_or_eq_of_le hij with h | h
    · exact (List.pairwise_iff_getElem.1 hs) i j hi hj h
    · subst h; exact Int.le_refl _
  have hget : ∀ i (hi : i < zs.length), zs.toArray[i]! = zs[i] := fun i hi => by simp [hi]
  constructor
  · unfold SR Lib.compact Lib.compactUpTo
    rw [List.pairwise_map]
    have hp : ((List.range zs.length).filter (Lib.keeps zs.toArray)).Pairwise (· < ·) := List.Pairwise.filter _ List.pairwise_lt_range
    refine List.Pairwise.imp_of_mem ?_ hp
    intro a b ha hb hab
    have hb1 := List.mem_filter.1 hb
    have ha1 := List.mem_filter.1 ha
    have hb2 : b < zs.length := List.mem_range.1 hb1.1
    have ha2 : a < zs.length := List.mem_range.1 ha1.1
    have hk := hb1.2
    simp only [Lib.keeps, decide_eq_true_eq] at hk
    rw [hget a ha2, hget b hb2]
    rcases hk with h | h
    · omega
    · rw [hget b hb2, hget (b - 1) (by omega)] at h
      have h1 := hle a (b - 1) ha2 (by omega) (by omega)
      have h2 := hle (b - 1) b (by omega) hb2 (by omega)
      omega
  · intro x
    unfold Lib.compact Lib.compactUpTo
    simp only [List.mem_map, List.mem_filter, List.mem_range]
    constructor
    · rintro ⟨i, ⟨hi, _⟩, rfl⟩
      rw [hget i hi]
      exact List.getElem_mem _
    · intro hx
      obtain ⟨i, hi, rfl⟩ := List.getElem_of_mem hx
      induction i using Nat.strongRecOn with
      | _ i ih =>
        by_cases hk : Lib.keeps zs.toArray i = true
        · exact ⟨i, ⟨hi, hk⟩, hget i hi⟩
        · simp only [Lib.keeps, decide_eq_true_eq, not_or, Decidable.not_not] at hk
          have h1 : zs[i] = zs[i - 1]'(by omega) := by have := hk.2; rwa [hget i hi, hget (i - 1) (by omega)] at this
          obtain ⟨j, hj, he⟩ := ih (i - 1) (by omega) (by omega) (List.getElem_mem _)
          exact ⟨j, hj, by rw [he, h1]⟩
theorem compact_len (zs : List Int) : (Lib.compact zs).length ≤ zs.length := by
  unfold Lib.compact Lib.compactUpTo
  have := List.length_filter_le (Lib.keeps zs.toArray) (List.range zs.length)
  simpa using this
theorem sort_le (zs : List Int) : (zs.mergeSort fun x y => decide (x ≤ y)).Pairwise (· ≤ ·) := by
  have := List.pairwise_mergeSort (le := fun x y : Int => decide (x ≤ y)) (by intro a b c h1 h2; simp at *; omega) (by intro a b; simp; omega) zs
  exact this.imp (by intro a b h; simpa using h)
theorem SR.filter {l : List Int} (h : SR l) (p : Int → Bool) : SR (l.filter p) := List.Pairwise.filter p h
theorem SR.le {l : List Int} (h : SR l) : l.Pairwise (· ≤ ·) := h.imp (by intro a b h; omega)
end Go.Proofs.Ytebghjbfdpeipaa
