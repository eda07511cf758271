/- IndexKnows, plain: lists of strings: Sort in the layer's words, what rises; the clone of a slice of one's own. -/
import Derived.Test.YtebghjbfdpeipaaIc
import Derived.Test.YtebghjbfdpeipaaJb
namespace Go.Proofs.Ytebghjbfdpeipaa
open Go.Proofs Go.W Go.RowKit
set_option linter.unusedVariables false
set_option linter.unusedSimpArgs false
set_option linter.unusedSectionVars false

section
variable {α : Type} [Inhabited α] (enc : α → Value)
theorem evo_rowG (w : World) (g n : Nat) (d : Array α) (os : Array Obj) : Evo [g] w (Sort.grow (Sort.putRow enc (Sort.ahead w n) g 0 d) os) := by
  refine ⟨rfl, rfl, rfl, ?_, fun b hb hx => ?_⟩
  · simp [Sort.grow, Sort.putRow, Sort.mapBlock, Sort.ahead]
  · have hne : g ≠ b := fun e => hx (by simp [e])
    simp only [Sort.grow, Sort.putRow, Sort.mapBlock, Sort.ahead]
    rw [Array.getElem?_append_left (by simpa using hb), Array.getElem?_modify, if_neg hne]
theorem row_blkG {w : World} {g : Nat} {cur : Array Value} {e : TypeId} (hb : w.heap[g]? = some (.cells cur e (0, 0))) (n : Nat) (d : Array α) (os : Array Obj) :
    (Sort.grow (Sort.putRow enc (Sort.ahead w n) g 0 d) os).heap[g]? = some (.cells (Sort.putCells enc 0 d cur) e (0, 0)) := by
  have hlt := blk_lt hb
  simp only [Sort.grow, Sort.putRow, Sort.mapBlock, Sort.ahead]
  rw [Array.getElem?_append_left (by simpa using hlt), Array.getElem?_modify, if_pos rfl, hb]
  rfl
theorem putCells_takeG (cur : Array Value) (ds : List α) (hc : ds.length ≤ cur.size) : (Sort.putCells enc 0 ds.toArray cur).toList.take ds.length = ds.map enc := by
  apply List.ext_getElem?
  intro k
  by_cases hk : k < ds.length
  · rw [List.getElem?_take, if_pos hk]
    simp only [Sort.putCells, Array.getElem?_toList, Array.getElem?_mapIdx, List.getElem?_map]
    have h1 : k < cur.size := by omega
    simp [h1, hk]
  · rw [List.getElem?_eq_none (by simp; omega), List.getElem?_eq_none (by simp; omega)]
theorem own_laidG {w : World} {e : TypeId} {g n c : Nat} {xs : List Value} {ds : List α} (h : OwnS w e 1 (some ⟨g, 0, none⟩) n c xs (some g)) (hd : ds.length = n) (q : Nat) (os : Array Obj) :
    OwnS (Sort.grow (Sort.putRow enc (Sort.ahead w q) g 0 ds.toArray) os) e 1 (some ⟨g, 0, none⟩) n c (ds.map enc) (some g) := by
  refine ⟨by simp; omega, ?_⟩
  rcases h.2 with ⟨h1, _⟩ | ⟨g', cap, cur, hg, hv, hb, hn, hc, hs, ht⟩
  · cases h1
  · cases hg; cases hv
    refine .inr ⟨g, c, _, rfl, rfl, row_blkG enc hb q ds.toArray os, by omega, hc, by simpa [Sort.putCells] using hs, ?_⟩
    rw [Nat.mul_one, ← hd]
    exact putCells_takeG enc cur ds (by omega)
theorem own_nG {w : World} {e : TypeId} {a : Option Addr} {n c : Nat} {l : List α} {ob : Option Nat} (h : OwnS w e 1 a n c (l.map enc) ob) : n = l.length := by have := h.length; simpa using this.symm
theorem own_holdsG {w : World} {e : TypeId} {g n c : Nat} {zs : List α} (h : OwnS w e 1 (some ⟨g, 0, none⟩) n c (zs.map enc) (some g)) : Sort.Holds enc w g 0 zs.toArray := fun j hj => by
  have hj' : j < zs.length := by simpa using hj
  have hn := own_nG enc h
  obtain ⟨g', cur, hg, ha, hb, hs, ht⟩ := h.at (by omega)
  cases hg
  constructor
  · refine cell_blk hb ?_
    have h1 : (cur.toList.take (n * 1))[j]? = some (enc zs[j]) := by rw [ht]; simp [hj']
    rw [List.getElem?_take, if_pos (by omega)] at h1
    rw [Nat.zero_add]
    simpa [hj'] using h1
  · simp [World.frozen?, hb]
theorem own_casesG {w : World} {e : TypeId} {a : Option Addr} {n c : Nat} {zs : List α} {ob : Option Nat} (h : OwnS w e 1 a n c (zs.map enc) ob) : (a = none ∧ n = 0 ∧ c = 0 ∧ zs = [] ∧ ob = none) ∨ ∃ g, a = some ⟨g, 0, none⟩ ∧ ob = some g := by
  have hn := own_nG enc h
  have ha := own_addr h
  cases ob with
  | none =>
    rcases h.2 with ⟨h1, h2, _⟩ | ⟨g, _, _, hg, _⟩
    · cases h1; exact .inl ⟨rfl, rfl, rfl, List.length_eq_zero_iff.1 hn.symm, rfl⟩
    · cases hg
  | some g => exact .inr ⟨g, ha, rfl⟩
end
def ofL (l : List UInt8) : ByteArray := ⟨l.toArray⟩
theorem ofL_toList (l : List UInt8) : (ofL l).toList = l := Go.ByteArray.toList_mk l
theorem toList_ofL (s : ByteArray) : ofL s.toList = s := toList_inj (ofL_toList _)
def ssrt (l : List ByteArray) : List ByteArray := ((l.map ByteArray.toList).mergeSort fun x y => decide (x ≤ y)).map ofL
theorem ssrt_perm (l : List ByteArray) : (ssrt l).Perm l := by
  have h := (List.mergeSort_perm (l.map ByteArray.toList) fun x y => decide (x ≤ y)).map ofL
  rw [List.map_map] at h
  have e : l.map (ofL ∘ ByteArray.toList) = l := by
    conv => rhs; rw [← List.map_id l]
    exact List.map_congr_left fun s _ => toList_ofL s
  rw [e] at h
  exact h
def SRs (l : List ByteArray) : Prop := l.Pairwise (fun a b => a.toList < b.toList)
theorem ssrt_rise {l : List ByteArray} (h : l.Nodup) : SRs (ssrt l) := by
  have h1 := List.pairwise_mergeSort (le := fun x y : List UInt8 => decide (x ≤ y)) (by intro a b c h1 h2; simp only [decide_eq_true_eq] at *; exact List.le_trans h1 h2) (by intro a b; simp only [Bool.or_eq_true, decide_eq_true_eq]; exact List.le_total a b) (l.map ByteArray.toList)
  have h2 : (ssrt l).Pairwise (fun a b => a.toList ≤ b.toList) := by
    unfold ssrt
    rw [List.pairwise_map]
    exact h1.imp (by intro a b h; rw [ofL_toList, ofL_toList]; exact of_decide_eq_true h)
  have h3 : (ssrt l).Nodup := (ssrt_perm l).nodup_iff.2 h
  exact (h2.and h3).imp (fun ⟨h, k⟩ => Std.lt_of_le_of_ne h (fun e => k (toList_inj e)))
abbrev sv (s : ByteArray) : Value := .string s
theorem sort_str {w : World} {a : Option Addr} {n c : Nat} {zs : List ByteArray} {ob : Option Nat} (h : OwnS w 9 1 a n c (zs.map sv) ob) (hl : n ≤ 1000000000) :
    Calls Try.prog 45 #[.slice a n c] w (Ret fun v w' => v = .tuple #[] ∧ OwnS w' 9 1 a n c ((ssrt zs).map sv) ob ∧ Evo ob.toList w w') := by
  have e1 : zs.map sv = (zs.map ByteArray.toList).map encStr := by
    rw [List.map_map]
    exact List.map_congr_left fun s _ => by show _ = Value.string (ofL s.toList); rw [toList_ofL]
  rw [e1] at h
  have hn := own_nG _ h
  have e2 : (ssrt zs).map sv = ((zs.map ByteArray.toList).mergeSort fun x y => decide (x ≤ y)).map encStr := by
    unfold ssrt; rw [List.map_map]; rfl
  rcases own_casesG _ h with ⟨rfl, rfl, rfl, hz, rfl⟩ | ⟨g, rfl, rfl⟩
  · refine (Try.slices_Sort_string_none none 0 w).mono ?_
    rintro e w' ⟨rfl, rfl⟩
    refine ⟨_, rfl, rfl, ?_, Evo.refl _ _⟩
    rw [e2, hz, List.mergeSort_nil]
    exact OwnS.nil _ _ _
  · subst hn
    refine (Try.slices_Sort_string g 0 c _ w (own_holdsG _ h) h.lt (by omega)).mono ?_
    rintro e w' ⟨rfl, q, os, rfl⟩
    refine ⟨_, rfl, rfl, ?_, evo_rowG _ w g q _ os⟩
    rw [e2]
    exact own_laidG _ h (List.length_mergeSort _) q os
/-- Clone of a slice of one's own. -/
theorem clone_own {w : World} {a : Option Addr} {n c : Nat} {zs : List Int} {ob : Option Nat} (h : OwnS w 3 1 a n c (zs.map iv) ob) (hl : n ≤ 1000000000) :
    Calls Try.prog 28 #[.slice a n c] w (Ret fun v w' => ∃ a' c' ob', v = .slice a' zs.length c' ∧ OwnS w' 3 1 a' zs.length c' (zs.map iv) ob' ∧ Ge w ob' ∧ Evo [] w w') := by
  have hn := own_n h
  rcases own_cases h with ⟨rfl, rfl, rfl, rfl, rfl⟩ | ⟨g, rfl, rfl⟩
  · refine (Try.slices_Clone_int_nil 0 0 w).mono ?_
    rintro e w' ⟨rfl, rfl⟩
    exact ⟨_, rfl, none, 0, none, rfl, OwnS.nil _ _ _, Ge.nil _, Evo.refl _ _⟩
  · subst hn
    refine (Try.slices_Clone_int g 0 zs.length c zs w (Nat.le_refl _) (by omega) (own_cells h)).mono ?_
    rintro e w' ⟨v', rfl, h1, _, h2⟩
    rw [List.take_length] at h1
    obtain ⟨a', c', ob', rfl, h3, h4⟩ := own_row h1
    exact ⟨_, rfl, a', c', ob', rfl, h3, h4, evo_below h2⟩
end Go.Proofs.Ytebghjbfdpeipaa
