/- Notes and threads in memory; what the machine has seen. No program's code stands here. -/
import Derived.Test.YtopjnoblhleimaaRp
namespace Go.Proofs.Ytopjnoblhleimaa
open Go.W

/-- A chain of notes. -/
inductive RNote (X : List Nat) (w : World) : Value → Notes → Prop
  | nil : RNote X w (.pointer none) []
  | cons {b k a : Nat} {v : Value} {t : Notes} (hx : b ∉ X) (hb : w.heap[b]? = some (.cells #[iv k, iv a, v] 90 (0, 0))) (h : RNote X w v t) : RNote X w (.pointer (some ⟨b, 0, none⟩)) ((k, a) :: t)
theorem RNote.evo {X : List Nat} {w w' : World} {v : Value} {t : Notes} (h : RNote X w v t) (he : Evo X w w') : RNote X w' v t := by
  induction h with
  | nil => exact .nil
  | cons hx hb _ ih => exact .cons hx (he.blk hb hx) ih
theorem RNote.fresh {X Y : List Nat} {w : World} {v : Value} {t : Notes} (h : RNote X w v t) (hy : ∀ y, y ∈ Y → y ∈ X ∨ w.heap.size ≤ y) : RNote Y w v t := by
  induction h with
  | nil => exact .nil
  | cons hx hb _ ih => exact .cons (fun hm => by rcases hy _ hm with h1 | h1; { exact hx h1 }; { have := blk_lt hb; omega }) hb ih
theorem RNote.step {X X' : List Nat} {w w' : World} {v : Value} {t : Notes} (h : RNote X w v t) (he : Evo X w w') (hx : ∀ y, y ∈ X' → y ∈ X ∨ w.heap.size ≤ y) : RNote X' w' v t :=
  ((h.fresh (Y := X ++ X') (fun y hy => by rcases List.mem_append.1 hy with h | h; { exact .inl h }; { exact hx y h })).evo (he.mono (fun b hb => List.mem_append_left _ hb))).fresh (fun y hy => .inl (List.mem_append_right _ hy))
theorem RNote.one {X : List Nat} {w : World} {v : Value} {t : Notes} (h : RNote X w v t) : v.oneCell' = true := by cases h <;> rfl
theorem RNote.ptr {X : List Nat} {w : World} {v : Value} {t : Notes} (h : RNote X w v t) : ∃ q, v = .pointer q := by cases h <;> exact ⟨_, rfl⟩
def RTh : Rel Th := fun X w vs d => ∃ v, vs = [iv d.1, v] ∧ RNote X w v d.2
theorem RTh.pers : RTh.Pers := fun _ _ _ _ _ he ⟨v, hv, h⟩ => ⟨v, hv, h.evo he⟩
theorem RTh.fresh : RTh.Fresh := fun _ _ _ _ _ hy ⟨v, hv, h⟩ => ⟨v, hv, h.fresh hy⟩
theorem RTh.one : ∀ X w vs d, RTh X w vs d → ∀ u, u ∈ vs → u.oneCell' = true := fun _ _ _ _ h u hu => by
  obtain ⟨v, rfl, h⟩ := h
  simp at hu
  rcases hu with rfl | rfl
  · rfl
  · exact h.one
theorem rows_step {X X' : List Nat} {w w' : World} {rows : List (List Value)} {ds : List Th} (h : RowsOk 2 RTh X w rows ds) (he : Evo X w w') (hx : ∀ y, y ∈ X' → y ∈ X ∨ w.heap.size ≤ y) : RowsOk 2 RTh X' w' rows ds :=
  ((h.fresh RTh.fresh (Y := X ++ X') (fun y hy => by rcases List.mem_append.1 hy with h | h; { exact .inl h }; { exact hx y h })).evo RTh.pers (he.mono (fun b hb => List.mem_append_left _ hb))).fresh RTh.fresh (fun y hy => .inl (List.mem_append_right _ hy))
theorem rows_last {X : List Nat} {w : World} {rows : List (List Value)} {ds : List Th} {d : Th} (h : RowsOk 2 RTh X w rows (ds ++ [d])) : ∃ rows' v, rows = rows' ++ [[iv d.1, v]] ∧ RowsOk 2 RTh X w rows' ds ∧ RNote X w v d.2 := by
  obtain ⟨hl, hr⟩ := h
  simp only [List.length_append, List.length_cons, List.length_nil] at hl
  have h1 := (hr ds.length (by simp) (by omega)).2
  obtain ⟨v, hv, hn⟩ := h1
  simp only [List.getElem_append_right (Nat.le_refl ds.length), Nat.sub_self, List.getElem_cons_zero] at hv hn
  refine ⟨rows.take ds.length, v, ?_, ⟨by simp; omega, fun k h1 h2 => ?_⟩, hn⟩
  · rw [← hv]
    apply List.ext_getElem
    · simp; omega
    · intro j h1 h2
      by_cases hj : j < ds.length
      · rw [List.getElem_append_left (by simp; omega)]; simp
      · have : j = ds.length := by omega
        subst this
        rw [List.getElem_append_right (by simp; omega)]
        simp
  · have := hr k (by simp; omega) (by omega)
    simp only [List.getElem_take]
    rw [List.getElem_append_left h1] at this
    exact this
/-- Where the machine writes. -/
abbrev XM (bm sb b4 : Nat) (t k : Option Nat) : List Nat := bm :: sb :: b4 :: (t.toList ++ k.toList)
theorem xm_t {bm sb b4 : Nat} {t k : Option Nat} : ∀ y, y ∈ t.toList → y ∈ XM bm sb b4 t k := fun y hy => by simp [XM, Option.mem_toList] at hy ⊢; simp [hy]
theorem xm_k {bm sb b4 : Nat} {t k : Option Nat} : ∀ y, y ∈ k.toList → y ∈ XM bm sb b4 t k := fun y hy => by simp [XM, Option.mem_toList] at hy ⊢; simp [hy]
theorem xm_s {bm sb b4 : Nat} {t k : Option Nat} : ∀ y, y ∈ bm :: sb :: t.toList → y ∈ XM bm sb b4 t k := fun y hy => by
  simp only [XM, List.mem_cons, List.mem_append] at hy ⊢; rcases hy with h | h | h <;> simp [h]
theorem xm_to {bm sb b4 : Nat} {t k t' k' : Option Nat} {w : World} (ht : ∀ y, y ∈ t'.toList → y ∈ XM bm sb b4 t k ∨ w.heap.size ≤ y) (hk : ∀ y, y ∈ k'.toList → y ∈ XM bm sb b4 t k ∨ w.heap.size ≤ y) : ∀ y, y ∈ XM bm sb b4 t' k' → y ∈ XM bm sb b4 t k ∨ w.heap.size ≤ y := fun y hy => by
  rcases List.mem_cons.1 hy with rfl | hy
  · left; simp [XM]
  · rcases List.mem_cons.1 hy with rfl | hy
    · left; simp [XM]
    · rcases List.mem_cons.1 hy with rfl | hy
      · left; simp [XM]
      · rcases List.mem_append.1 hy with h | h
        · exact ht y h
        · exact hk y h
theorem xm_to' {bm sb b4 : Nat} {t k : Option Nat} {w w' : World} (_he : Evo (XM bm sb b4 t k) w w') {t' k' : Option Nat} (ht : ∀ y, y ∈ t'.toList → y ∈ XM bm sb b4 t k ∨ w.heap.size ≤ y) (hk : ∀ y, y ∈ k'.toList → y ∈ XM bm sb b4 t k ∨ w.heap.size ≤ y) : ∀ y, y ∈ XM bm sb b4 t' k' → y ∈ XM bm sb b4 t k ∨ w.heap.size ≤ y := xm_to ht hk
theorem ob_in {X : List Nat} {w w1 : World} {ob ob' : Option Nat} (hob : ob' = ob ∨ ∃ g, ob' = some g ∧ w1.heap.size ≤ g) (he : Evo X w w1) (h : ∀ y, y ∈ ob.toList → y ∈ X) : ∀ y, y ∈ ob'.toList → y ∈ X ∨ w.heap.size ≤ y := fun y hy => by
  rcases hob with rfl | ⟨g, rfl, hg⟩
  · exact .inl (h y hy)
  · right
    simp at hy
    subst hy
    have := he.size
    omega
theorem ob_in2 {X : List Nat} {w w1 : World} {ob ob' : Option Nat} (hob : ob' = ob ∨ ∃ g, ob' = some g ∧ w1.heap.size ≤ g) (he : Evo X w w1) (h : ∀ y, y ∈ ob.toList → y ∈ X ∨ w.heap.size ≤ y) : ∀ y, y ∈ ob'.toList → y ∈ X ∨ w.heap.size ≤ y := fun y hy => by
  rcases hob with rfl | ⟨g, rfl, hg⟩
  · exact h y hy
  · right
    simp at hy
    subst hy
    have := he.size
    omega
theorem xm_nmem {b bm sb b4 : Nat} {t k : Option Nat} (h1 : Apart (some bm) (some b)) (h2 : Apart (some sb) (some b)) (h3 : Apart (some b4) (some b)) (h4 : Apart t (some b)) (h5 : Apart k (some b)) : b ∉ XM bm sb b4 t k := fun h => by
  rcases List.mem_cons.1 h with rfl | h
  · exact h1 _ rfl rfl
  · rcases List.mem_cons.1 h with rfl | h
    · exact h2 _ rfl rfl
    · rcases List.mem_cons.1 h with rfl | h
      · exact h3 _ rfl rfl
      · rcases List.mem_append.1 h with h | h
        · exact h4 b (by simpa using h) rfl
        · exact h5 b (by simpa using h) rfl
/-- What has been seen at a place: 1 more than the place stands there. -/
def seenV (a : Nat) (sv : Nat → Nat) : Vis := fun j => decide (sv j = a + 1)
def mark (sv : Nat → Nat) (i v : Nat) : Nat → Nat := fun j => if j = i then v else sv j
theorem seen_mark (a i : Nat) (sv : Nat → Nat) : seenV a (mark sv i (a + 1)) = (seenV a sv).add i := by
  funext j
  simp only [seenV, mark, Vis.add]
  by_cases h : j = i <;> simp [h]
def svc (n : Nat) (sv : Nat → Nat) : List Value := (List.range n).map fun j => iv (sv j)
theorem svc_get {n i : Nat} {sv : Nat → Nat} (h : i < n) : (svc n sv)[i]? = some (iv (sv i)) := by simp [svc, h]
theorem svc_set {n i v : Nat} {sv : Nat → Nat} : (svc n sv).set i (iv v) = svc n (mark sv i v) := by
  apply List.ext_getElem?
  intro j
  simp only [svc, List.getElem?_set, List.length_map, List.length_range, List.getElem?_map]
  by_cases hj : j < n
  · by_cases e : i = j
    · subst e; simp [hj, mark]
    · simp [hj, e, mark, Ne.symm e]
  · by_cases e : i = j
    · subst e; simp [hj]
    · simp [hj, e]
theorem svc_zero (n : Nat) : zeros #[.int .i64 0] n = svc n (fun _ => 0) := by
  simp only [zeros, svc]
  induction n with
  | zero => rfl
  | succ n ih => rw [List.range_succ, List.map_append, ← ih, List.replicate_succ', List.flatten_append]; simp
/-- How many have not been seen. -/
def us (n a : Nat) (sv : Nat → Nat) : Nat := (List.range n).countP fun j => !(seenV a sv j)
theorem us_le (n a : Nat) (sv : Nat → Nat) : us n a sv ≤ n := by
  have := List.countP_le_length (p := fun j => !(seenV a sv j)) (l := List.range n)
  simpa [us] using this
theorem us_mark {n a i : Nat} {sv : Nat → Nat} (hi : i < n) (h : seenV a sv i = false) : us n a (mark sv i (a + 1)) + 1 = us n a sv := by
  refine countP_one (k := i) (by simp [h]) (by rw [seen_mark]; simp [Vis.add]) (fun j hj => ?_) hi
  rw [seen_mark]
  simp [Vis.add, hj]
theorem mark_le {sv : Nat → Nat} {i v : Nat} (h : ∀ j, sv j ≤ v) : ∀ j, mark sv i v j ≤ v := fun j => by
  unfold mark; split
  · exact Nat.le_refl _
  · exact h j
end Go.Proofs.Ytopjnoblhleimaa
