/- The walk of search: place after place, all threads at once. -/
import Derived.Test.YtopjnoblhleimaaRe
namespace Go.Proofs.Ytopjnoblhleimaa
open Go.Proofs
open Go.W
attribute [local irreducible] Decidable.decide
set_option linter.unusedSimpArgs false
set_option linter.unusedVariables false



abbrev WZ : Wt := fun _ _ => false
/-- Behind the threads of a place. -/
def PkL (p : Prg) (s : ByteArray) (a : Nat) (L : List Th) (r : Option Notes) (W' : Wt) : Prop :=
  (a = s.size ∧ r = first (mvOf p s) a L) ∨ (a ≠ s.size ∧ nxtOf s a = none ∧ r = none) ∨ (a ≠ s.size ∧ ∃ b, nxtOf s a = some b ∧ Pk (mvOf p s) (nxtOf s) s.size b (nexts (mvOf p s) a L) WZ r W')
theorem pk_of_eps {p : Prg} {s : ByteArray} {a : Nat} {E L : List Th} {V' : Vis} {r : Option Notes} {W' : Wt} (h : Eps (mvOf p s) a E (fun _ => false) L V') (k : PkL p s a L r W') : ∃ W2, Pk (mvOf p s) (nxtOf s) s.size a E WZ r W2 := by
  rcases k with ⟨h1, rfl⟩ | ⟨h1, h2, rfl⟩ | ⟨h1, b, h2, h3⟩
  · exact ⟨_, .last h1 h⟩
  · exact ⟨_, .stop h1 h2 h⟩
  · exact ⟨_, .next h1 h2 h h3⟩
theorem pk_nil (p : Prg) (s : ByteArray) : ∀ (n a : Nat) (W : Wt), s.size + 1 - a = n → ∃ W', Pk (mvOf p s) (nxtOf s) s.size a [] W none W' := by
  intro n
  induction n using Nat.strongRecOn with
  | _ n ih =>
    intro a W hn
    by_cases h : a = s.size
    · exact ⟨_, .last h .nil⟩
    · cases hx : nxtOf s a with
      | none => exact ⟨_, .stop h hx .nil⟩
      | some b =>
        have h1 := nxt_up s a b hx
        have h2 := nxt_le s a b hx
        obtain ⟨W', hp⟩ := ih (s.size + 1 - b) (by omega) b W rfl
        exact ⟨_, .next h hx .nil hp⟩
theorem pkL_nil (p : Prg) (s : ByteArray) (a : Nat) : ∃ W', PkL p s a [] none W' := by
  by_cases h : a = s.size
  · exact ⟨WZ, .inl ⟨h, rfl⟩⟩
  · cases hx : nxtOf s a with
    | none => exact ⟨WZ, .inr (.inl ⟨h, hx, rfl⟩)⟩
    | some b => obtain ⟨W', hp⟩ := pk_nil p s _ b WZ rfl; exact ⟨W', .inr (.inr ⟨h, b, hx, hp⟩)⟩
theorem eps_leaf {p : Prg} {s : ByteArray} {a : Nat} {E L : List Th} {V V' : Vis} (h : Eps (mvOf p s) a E V L V') : ∀ d, d ∈ L → (mvOf p s a d.1).leaf = true := by
  induction h with
  | nil => intro d hd; cases hd
  | seen _ _ ih => exact ih
  | leaf _ hl _ ih => intro d hd; rcases List.mem_cons.1 hd with rfl | hd; { exact hl }; { exact ih d hd }
  | go _ _ _ ih => exact ih
  | split _ _ _ ih => exact ih
  | save _ _ _ ih => exact ih
  | dead _ _ _ ih => exact ih
theorem leaf_lt {p : Prg} {s : ByteArray} {a i : Nat} (h : (mvOf p s a i).leaf = true) : i < p.insts.length := by
  unfold mvOf at h
  by_cases hi : i < p.insts.length
  · exact hi
  · rw [List.getElem?_eq_none (by omega)] at h; cases h
theorem leaf_op {p : Prg} {s : ByteArray} {a i : Nat} (hi : i < p.insts.length) (h : (mvOf p s a i).leaf = true) : p.insts[i].op = 1 ∨ p.insts[i].op = 2 := by
  rw [mvOf_at hi] at h
  unfold mvI at h
  by_cases h1 : p.insts[i].op = 1
  · exact .inl h1
  · by_cases h2 : p.insts[i].op = 2
    · exact .inr h2
    · rw [if_neg h1, if_neg h2] at h
      repeat' split at h
      all_goals cases h
theorem mat_iff {p : Prg} {s : ByteArray} {a i : Nat} (hi : i < p.insts.length) : (mvOf p s a i).isMat = decide (p.insts[i].op = 1) := by
  rw [mvOf_at hi]
  unfold mvI
  by_cases h1 : p.insts[i].op = 1
  · rw [if_pos h1]; simp [h1, Mv.isMat]
  · rw [if_neg h1]
    repeat' split
    all_goals simp [h1, Mv.isMat]
theorem outs_of {p : Prg} {s : ByteArray} {a i : Nat} (hi : i < p.insts.length) : (mvOf p s a i).outs = if p.insts[i].op = 2 ∧ Inside (nextR s a).1 p.insts[i].rs then some p.insts[i].out.toNat else none := by
  rw [mvOf_at hi]
  unfold mvI
  by_cases h1 : p.insts[i].op = 1
  · rw [if_pos h1, if_neg (fun h => by omega)]; rfl
  · rw [if_neg h1]
    by_cases h2 : p.insts[i].op = 2
    · rw [if_pos h2]
      by_cases h3 : Inside (nextR s a).1 p.insts[i].rs
      · rw [if_pos h3, if_pos ⟨h2, h3⟩]; rfl
      · rw [if_neg h3, if_neg (fun h => h3 h.2)]; rfl
    · have hn : ¬ (p.insts[i].op = 2 ∧ Inside (nextR s a).1 p.insts[i].rs) := fun h => h2 h.1
      rw [if_neg h2, if_neg hn]
      repeat' split
      all_goals rfl
theorem first_found {p : Prg} {s : ByteArray} {a k : Nat} {L : List Th} (hk : k < L.length) (hL : ∀ d, d ∈ L → d.1 < p.insts.length) (h1 : ∀ j (hj : j < L.length), j < k → ∀ hi : L[j].1 < p.insts.length, ¬ p.insts[L[j].1].op = 1) (h2 : ∀ hi : L[k].1 < p.insts.length, p.insts[L[k].1].op = 1) : first (mvOf p s) a L = some L[k].2 := by
  rw [first_eq]
  have : L.find? (fun x => (mvOf p s a x.1).isMat) = some L[k] := by
    rw [List.find?_eq_some_iff_getElem]
    refine ⟨by rw [mat_iff (hL _ (List.getElem_mem _))]; simpa using h2 (hL _ (List.getElem_mem _)), k, hk, rfl, fun j hj => ?_⟩
    rw [mat_iff (hL _ (List.getElem_mem _))]
    simpa using h1 j (by omega) hj (hL _ (List.getElem_mem _))
  rw [this]; rfl
theorem first_not {p : Prg} {s : ByteArray} {a : Nat} {L : List Th} (hL : ∀ d, d ∈ L → d.1 < p.insts.length) (h1 : ∀ j (hj : j < L.length), ∀ hi : L[j].1 < p.insts.length, ¬ p.insts[L[j].1].op = 1) : first (mvOf p s) a L = none := by
  rw [first_eq]
  have : L.find? (fun x => (mvOf p s a x.1).isMat) = none := by
    rw [List.find?_eq_none]
    intro d hd
    obtain ⟨j, hj, rfl⟩ := List.getElem_of_mem hd
    rw [mat_iff (hL _ hd)]
    simpa using h1 j hj (hL _ hd)
  rw [this]; rfl
theorem nexts_step {p : Prg} {s : ByteArray} {a k : Nat} {L : List Th} (hk : k < L.length) : nexts (mvOf p s) a (L.take (k + 1)) = nexts (mvOf p s) a (L.take k) ++ nexts (mvOf p s) a [L[k]] := by
  rw [List.take_succ_eq_append_getElem hk, nexts_app]
theorem nexts_none {p : Prg} {s : ByteArray} {a : Nat} {d : Th} (hi : d.1 < p.insts.length) (h : ¬ (p.insts[d.1].op = 2 ∧ Inside (nextR s a).1 p.insts[d.1].rs)) : nexts (mvOf p s) a [d] = [] := by
  rw [nexts_one, outs_of hi, if_neg h]; rfl
theorem nexts_some {p : Prg} {s : ByteArray} {a : Nat} {d : Th} (hi : d.1 < p.insts.length) (h1 : p.insts[d.1].op = 2) (h2 : Inside (nextR s a).1 p.insts[d.1].rs) : nexts (mvOf p s) a [d] = [(p.insts[d.1].out.toNat, d.2)] := by
  rw [nexts_one, outs_of hi, if_pos ⟨h1, h2⟩]; rfl
theorem row_at {X : List Nat} {w : World} {e : TypeId} {a : Option Addr} {n c : Nat} {rows : List (List Value)} {ob : Option Nat} {ds : List Th} (h : OwnS w e 2 a n c rows.flatten ob) (hr : RowsOk 2 RTh X w rows ds) {k : Nat} (hk : k < ds.length) :
    ∃ g q, ob = some g ∧ a = some ⟨g, 0, none⟩ ∧ CellsAt w g (0 + k * 2) [iv ds[k].1, .pointer q] ∧ RNote X w (.pointer q) ds[k].2 := by
  have hl := hr.flen
  have h1 := h.1
  rw [flatten_len hl, hr.1] at h1
  obtain ⟨g, hg, ha, hc⟩ := h.cells (by omega)
  obtain ⟨_, v, hv, hn⟩ := hr.2 k hk (by rw [hr.1]; exact hk)
  obtain ⟨q, rfl⟩ := hn.ptr
  refine ⟨g, q, hg, ha, fun j v hj => ?_, hn⟩
  have hj2 : j < 2 := (List.getElem?_eq_some_iff.1 hj).1
  have := hc (k * 2 + j) v (by rw [flatten_get hl (by rw [hr.1]; exact hk) hj2, hv]; exact hj)
  rw [show 0 + k * 2 + j = 0 + (k * 2 + j) by omega]
  exact this
theorem rows_len {X : List Nat} {w : World} {e : TypeId} {a : Option Addr} {n c : Nat} {rows : List (List Value)} {ob : Option Nat} {ds : List Th} (h : OwnS w e 2 a n c rows.flatten ob) (hr : RowsOk 2 RTh X w rows ds) : ds.length = n := by
  have h1 := h.1
  rw [flatten_len hr.flen, hr.1] at h1
  omega
theorem seen_none {a b : Nat} {sv : Nat → Nat} (h : ∀ j, sv j ≤ a + 1) (hab : a < b) : seenV b sv = fun _ => false := by
  funext j
  have := h j
  simp only [seenV, decide_eq_false_iff_not]
  omega
structure SG where
  a : Nat
  sv : Nat → Nat
  ls : List Th
  tr : List (List Value)
  ta : Option Addr
  tn : Nat
  tc : Nat
  tob : Option Nat
structure SH where
  k : Nat
  sw : Nat → Nat
  ms : List Th
  ur : List (List Value)
  ua : Option Addr
  un : Nat
  uc : Nat
  uob : Option Nat
theorem nmk {b bm sb : Nat} {t : Option Nat} (h1 : Apart (some b) (some bm)) (h2 : Apart (some b) (some sb)) (h3 : Apart (some b) t) : b ∉ bm :: sb :: t.toList := fun h => by
  rcases List.mem_cons.1 h with rfl | h
  · exact h1 _ rfl rfl
  · rcases List.mem_cons.1 h with rfl | h
    · exact h2 _ rfl rfl
    · exact h3.nmem h
theorem nmo {o : Option Nat} {bm sb : Nat} {t : Option Nat} (h1 : Apart o (some bm)) (h2 : Apart o (some sb)) (h3 : Apart o t) : ∀ g, o = some g → g ∉ bm :: sb :: t.toList := fun g e => by subst e; exact nmk h1 h2 h3
theorem ge3 {X : List Nat} {w : World} {bm sb : Nat} {t : Option Nat} (h1 : Ge w (some bm)) (h2 : Ge w (some sb)) (h3 : Ge w t) : ∀ y, y ∈ bm :: sb :: t.toList → y ∈ X ∨ w.heap.size ≤ y := fun y hy => by
  right
  rcases List.mem_cons.1 hy with rfl | hy
  · exact h1 _ rfl
  · rcases List.mem_cons.1 hy with rfl | hy
    · exact h2 _ rfl
    · exact h3 _ (by simpa using hy)
theorem in3 {X : List Nat} {w w1 : World} {bm sb : Nat} {t t' : Option Nat} (he : Evo X w w1) (hm : bm ∈ X) (hs : sb ∈ X) (ht : ∀ y, y ∈ t.toList → y ∈ X) (h : t' = t ∨ Ge w1 t') : ∀ y, y ∈ bm :: sb :: t'.toList → y ∈ X ∨ w.heap.size ≤ y := fun y hy => by
  rcases List.mem_cons.1 hy with rfl | hy
  · exact .inl hm
  · rcases List.mem_cons.1 hy with rfl | hy
    · exact .inl hs
    · rcases h with rfl | h
      · exact .inl (ht y hy)
      · right; have := h y (by simpa using hy); have := he.size; omega

end Go.Proofs.Ytopjnoblhleimaa
