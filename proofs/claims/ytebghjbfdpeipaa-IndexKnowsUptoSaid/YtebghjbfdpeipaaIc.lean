/- The shelf's contracts in the layer's words: Sort, Compact, BinarySearch, AppendSeq over a slice. -/
import Derived.Test.YtebghjbfdpeipaaIb
namespace Go.Proofs.Ytebghjbfdpeipaa
open Go.Proofs Go.W
set_option linter.unusedVariables false
set_option linter.unusedSimpArgs false

abbrev srt (zs : List Int) : List Int := zs.mergeSort fun x y => decide (x ≤ y)
theorem own_cases {w : World} {e : TypeId} {a : Option Addr} {n c : Nat} {zs : List Int} {ob : Option Nat} (h : OwnS w e 1 a n c (zs.map iv) ob) : (a = none ∧ n = 0 ∧ c = 0 ∧ zs = [] ∧ ob = none) ∨ ∃ g, a = some ⟨g, 0, none⟩ ∧ ob = some g := by
  have hn := own_n h
  have ha := own_addr h
  cases ob with
  | none =>
    rcases h.2 with ⟨h1, h2, _⟩ | ⟨g, _, _, hg, _⟩
    · cases h1; exact .inl ⟨rfl, rfl, rfl, List.length_eq_zero_iff.1 hn.symm, rfl⟩
    · cases hg
  | some g => exact .inr ⟨g, ha, rfl⟩
theorem sort_own {w : World} {a : Option Addr} {n c : Nat} {zs : List Int} {ob : Option Nat} (h : OwnS w 3 1 a n c (zs.map iv) ob) (hl : n ≤ 1000000000) :
    Calls Try.prog 49 #[.slice a n c] w (Ret fun v w' => v = .tuple #[] ∧ OwnS w' 3 1 a n c ((srt zs).map iv) ob ∧ Evo ob.toList w w') := by
  have hn := own_n h
  rcases own_cases h with ⟨rfl, rfl, rfl, rfl, rfl⟩ | ⟨g, rfl, rfl⟩
  · refine (Try.slices_Sort_int_none none 0 w).mono ?_
    rintro e w' ⟨rfl, rfl⟩
    exact ⟨_, rfl, rfl, by simpa [srt] using h, Evo.refl _ _⟩
  · subst hn
    refine (Try.slices_Sort_int g 0 c zs w (own_holds h) h.lt (by omega)).mono ?_
    rintro e w' ⟨rfl, q, os, rfl⟩
    refine ⟨_, rfl, rfl, ?_, evo_row w g q _ os⟩
    have := own_laid h (ds := srt zs) (m := zs.length) (List.length_mergeSort zs) (Nat.le_refl _) q os
    rwa [List.take_of_length_le (by rw [List.length_mergeSort]; omega)] at this
theorem compact_own {w : World} {a : Option Addr} {n c : Nat} {zs : List Int} {ob : Option Nat} (h : OwnS w 3 1 a n c (zs.map iv) ob) (hl : n ≤ 1000000000) :
    Calls Try.prog 34 #[.slice a n c] w (Ret fun v w' => v = .slice a (Lib.compact zs).length c ∧ OwnS w' 3 1 a (Lib.compact zs).length c ((Lib.compact zs).map iv) ob ∧ Evo ob.toList w w') := by
  have hn := own_n h
  rcases own_cases h with ⟨rfl, rfl, rfl, rfl, rfl⟩ | ⟨g, rfl, rfl⟩
  · refine (Try.slices_Compact_int_empty none 0 w).mono ?_
    rintro e w' ⟨rfl, rfl⟩
    exact ⟨_, rfl, rfl, OwnS.nil _ _ _, Evo.refl _ _⟩
  · subst hn
    have hcl := compact_len zs
    refine (Try.slices_Compact_int g 0 c zs w (own_holds h) (by omega) h.le).mono ?_
    rintro e w' ⟨rfl, q, rfl⟩
    have e1 : ∀ d : Array Int, Sort.putRow (Value.int .i64) (Sort.ahead w q) g 0 d = Sort.grow (Sort.putRow (Value.int .i64) (Sort.ahead w q) g 0 d) #[] := fun d => (Sort.grow_empty _).symm
    rw [e1]
    refine ⟨_, rfl, rfl, ?_, evo_row w g q _ _⟩
    have := own_laid h (ds := Lib.compact zs ++ List.replicate (zs.length - (Lib.compact zs).length) 0) (m := (Lib.compact zs).length) (by simp; omega) hcl q #[]
    rwa [List.take_left' rfl] at this
theorem evo_drewN' (w : World) (q : Nat) : Evo [] w (w.drewN q) := ⟨rfl, rfl, rfl, Nat.le_refl _, fun _ _ _ => rfl⟩
theorem search_own {w : World} {e : TypeId} {a : Option Addr} {n c : Nat} {zs : List Int} {ob : Option Nat} (h : OwnS w e 1 a n c (zs.map iv) ob) (hl : n ≤ 1000000000) (hs : zs.Pairwise (· ≤ ·)) (x : Int) :
    Calls Try.prog 38 #[.slice a n c, .int .i64 x] w (Ret fun v w' => (∃ k, v = .tuple #[.int .i64 k, .bool (decide (x ∈ zs))]) ∧ Evo [] w w') := by
  have hn := own_n h
  rcases own_cases h with ⟨rfl, rfl, rfl, rfl, rfl⟩ | ⟨g, rfl, rfl⟩
  · refine (Try.slices_BinarySearch_int_empty none 0 x w).mono ?_
    rintro e w' ⟨rfl, rfl⟩
    exact ⟨_, rfl, ⟨0, by simp⟩, Evo.refl _ _⟩
  · subst hn
    refine (Try.slices_BinarySearch_int g 0 zs.length c zs x w (Nat.le_refl _) (by omega) (own_cells h) (by rw [List.take_length]; exact hs)).mono ?_
    rintro e w' ⟨rfl, q, rfl⟩
    exact ⟨_, rfl, ⟨(zs.countP (· < x) : Nat), by rw [List.take_length]; simp⟩, evo_drewN' w q⟩
theorem cell_lt {w : World} {a : Addr} {v : Value} (h : w.cell? a = some v) : a.block < w.heap.size := by
  unfold World.cell? at h
  by_cases hb : a.block < w.heap.size
  · exact hb
  · rw [Array.getElem?_eq_none (by omega)] at h; simp at h
/-- What a caller's list looks like to AppendSeq. -/
theorem ints_of {X : List Nat} {w : World} {v : Value} {l : List Int} (h : RSl 1 RZ X w v l) : Ints w.heap.size w v l := by
  obtain ⟨a, c, rfl, hc, h⟩ := h
  rcases l with _ | ⟨z, l⟩
  · exact .inl ⟨rfl, _, _, rfl⟩
  · obtain ⟨b, o, vs, rfl, _, _, hc0, rfl⟩ := h 0 (by simp)
    have h0 := hc0 0 _ rfl
    refine .inr ⟨b, o, c, rfl, ?_, fun j hj => ?_⟩
    · have := cell_lt h0
      simpa using this
    · obtain ⟨b', o', vs', ha', _, _, hc', hv'⟩ := h j hj
      cases ha'; subst hv'
      have := hc' 0 _ rfl
      simp only [Nat.mul_one, Nat.add_zero] at this
      rw [this, List.getElem?_eq_getElem hj]; rfl
theorem Ints.mono {n m : Nat} {W : World} {v : Value} {zs : List Int} (h : Ints n W v zs) (hnm : n ≤ m) : Ints m W v zs := h.imp id fun ⟨b, o, c, e, hb, hc⟩ => ⟨b, o, c, e, Nat.lt_of_lt_of_le hb hnm, hc⟩
theorem seq_ok {w : World} {Bs : Nat} {v : Value} {l : List Int} (hB : w.heap[Bs]? = some (.cells #[v] 22 (0, 0))) (hI : Ints w.heap.size w v l) (hl : l.length ≤ 100000000) :
    Calls Try.prog 59 #[.slice none 0 0, .func (.func 50) #[] #[.pointer (some ⟨Bs, 0, none⟩)]] w (Ret fun v' w' => ∃ a c ob, v' = .slice a l.length c ∧ OwnS w' 3 1 a l.length c (l.map iv) ob ∧ Ge w ob ∧ Evo [] w w') := by
  have hc : w.cell? ⟨Bs, 0, none⟩ = some v := cell_nth hB rfl
  refine ((callsIn_wide (n := 3)).1 (appendSeq_in Fence.wide 3 trivial trivial rfl (Nat.le_refl _) Bs v l (by simp [maxLen]; omega) (by omega) w hc (blk_lt hB) hI)).mono ?_
  rintro e w' ⟨v', rfl, hr, _, hb⟩
  obtain ⟨a, c, ob, rfl, ho, hg⟩ := own_row hr
  exact ⟨_, rfl, a, c, ob, rfl, ho, hg, evo_below hb⟩
end Go.Proofs.Ytebghjbfdpeipaa
