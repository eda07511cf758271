/- The layer, fifth part: elements of several cells are stored; several slices of one's own at once. -/
import Derived.Test.YtgboffefbpligaaFw4
namespace Go.W
set_option linter.unusedSimpArgs false
set_option linter.unusedVariables false

/-! ### An element is stored -/
/-- n cells from o on are replaced. -/
def putAt (xs : List Value) (o : Nat) (vs : List Value) : List Value := xs.take o ++ vs ++ xs.drop (o + vs.length)
theorem putAt_len {xs vs : List Value} {o : Nat} (h : o + vs.length ≤ xs.length) : (putAt xs o vs).length = xs.length := by
  simp only [putAt, List.length_append, List.length_take, List.length_drop]; omega
theorem putAt_take {xs vs : List Value} {o m : Nat} (h : o + vs.length ≤ m) (hm : m ≤ xs.length) : (putAt xs o vs).take m = putAt (xs.take m) o vs := by
  simp only [putAt]
  have h1 : (xs.take o ++ vs).length = o + vs.length := by simp only [List.length_append, List.length_take]; omega
  rw [List.take_append, h1, List.take_of_length_le (by omega), List.take_take, Nat.min_eq_left (by omega), List.drop_take]
theorem OwnS.put {w w' : World} {e : TypeId} {sz : Nat} {a : Option Addr} {n c : Nat} {xs vs : List Value} {ob : Option Nat} {g : Nat} {cur : Array Value} {U : TypeId} {o k : Nat} (h : OwnS w e sz a n c xs ob) (hg : ob = some g) (hb : w.heap[g]? = some (.cells cur U (0, 0))) (ho : o = k * sz) (hk : k < n) (hv : vs.length = sz)
    (hb' : w'.heap[g]? = some (.cells (cur.toList.take o ++ vs ++ cur.toList.drop (o + sz)).toArray U (0, 0))) : OwnS w' e sz a n c (putAt xs o vs) ob := by
  subst hg ho
  have hl := h.1
  have hle : k * sz + sz ≤ n * sz := by have : (k + 1) * sz ≤ n * sz := Nat.mul_le_mul_right _ hk; rw [Nat.add_mul] at this; omega
  have hxl : xs.length = n * sz := hl
  refine ⟨by rw [putAt_len (by rw [hv]; omega)]; exact hl, ?_⟩
  rcases h.2 with ⟨_, _, h2⟩ | ⟨g', cap, cur', hg, hv2, hbb, hn, hc, hs, ht⟩
  · cases h2
  · cases hg
    rw [hb] at hbb
    cases hbb
    have hncs : n * sz ≤ cap * sz := Nat.mul_le_mul_right _ hn
    refine .inr ⟨g, cap, _, rfl, hv2, hb', hn, hc, ?_, ?_⟩
    · simp only [List.size_toArray, List.length_append, List.length_take, List.length_drop, Array.length_toList]; omega
    · have := putAt_take (xs := cur.toList) (vs := vs) (o := k * sz) (m := n * sz) (by rw [hv]; omega) (by simp only [Array.length_toList]; omega)
      rw [ht] at this
      rw [← this]
      simp only [putAt, hv]

/-! ### Several slices of one's own -/
structure Sl where
  a : Option Addr
  n : Nat
  c : Nat
  ob : Option Nat
abbrev Sl.v (s : Sl) : Value := .slice s.a s.n s.c
structure Fam (w : World) (e : TypeId) (sz N : Nat) (S : Nat → Sl) (xs : Nat → List Value) : Prop where
  own : ∀ i, i < N → OwnS w e sz (S i).a (S i).n (S i).c (xs i) (S i).ob
  ap : ∀ i j, i < N → j < N → i ≠ j → Apart (S i).ob (S j).ob
section
variable {w w' : World} {e : TypeId} {sz N : Nat} {S : Nat → Sl} {xs : Nat → List Value} {X : List Nat} {i : Nat}
theorem Fam.evo (h : Fam w e sz N S xs) (he : Evo X w w') (hx : ∀ k, k < N → ∀ g, (S k).ob = some g → g ∉ X) : Fam w' e sz N S xs := ⟨fun k hk => (h.own k hk).evo he (hx k hk), h.ap⟩
theorem Fam.evo0 (h : Fam w e sz N S xs) (he : Evo [] w w') : Fam w' e sz N S xs := h.evo he (fun _ _ _ _ h => by cases h)
theorem Fam.lt (h : Fam w e sz N S xs) {k : Nat} (hk : k < N) : Lt w (S k).ob := Lt.own (h.own k hk)
theorem Fam.upd (h : Fam w e sz N S xs) (hi : i < N) {s : Sl} {ys : List Value} (ho : OwnS w' e sz s.a s.n s.c ys s.ob) (he : Evo (S i).ob.toList w w') (hb : s.ob = (S i).ob ∨ Ge w s.ob) : Fam w' e sz N (fun k => if k = i then s else S k) (fun k => if k = i then ys else xs k) := by
  have key : ∀ k, k < N → k ≠ i → Apart s.ob (S k).ob := fun k hk hki => by
    rcases hb with hb | hb
    · rw [hb]; exact h.ap i k hi hk (fun h => hki h.symm)
    · exact (Apart.fresh (h.lt hk) hb).symm
  refine ⟨fun k hk => ?_, fun a b ha hb' hab => ?_⟩
  · by_cases hki : k = i
    · subst hki; simp only [if_true]; exact ho
    · simp only [if_neg hki]; exact (h.own k hk).evo he (h.ap k i hk hi hki).own
  · by_cases h1 : a = i
    · subst h1
      simp only [if_true, if_neg (fun h => hab h.symm : ¬ b = a)]
      exact key b hb' (fun h => hab h.symm)
    · by_cases h2 : b = i
      · subst h2
        simp only [if_true, if_neg h1]
        exact (key a ha h1).symm
      · simp only [if_neg h1, if_neg h2]; exact h.ap a b ha hb' hab
/-- The same slices, other words for them. -/
theorem Fam.congr (h : Fam w e sz N S xs) {S' : Nat → Sl} {ys : Nat → List Value} (h1 : ∀ k, k < N → S' k = S k) (h2 : ∀ k, k < N → ys k = xs k) : Fam w e sz N S' ys :=
  ⟨fun k hk => by rw [h1 k hk, h2 k hk]; exact h.own k hk, fun a b ha hb hab => by rw [h1 a ha, h1 b hb]; exact h.ap a b ha hb hab⟩
theorem own_addr {a : Option Addr} {n c : Nat} {ys : List Value} {ob : Option Nat} (h : OwnS w e sz a n c ys ob) : a = ob.map fun g => ⟨g, 0, none⟩ := by
  rcases h.2 with ⟨h1, _, h3⟩ | ⟨g, cap, cur, hg, hv, _⟩
  · cases h1; subst h3; rfl
  · cases hv; subst hg; rfl
end

/-! ### What a slice held is still to be read, whatever has been appended to another one that began as the same -/
/-- s still reads as m elements of cells mk each. -/
def Reads (w : World) (sz : Nat) (s : Sl) (mk : List Value) : Prop := ∀ j, j < s.n → ∃ g, s.a = some ⟨g, 0, none⟩ ∧ s.ob = some g ∧ CellsAt w g (0 + j * sz) mk
abbrev rep (m : Nat) (mk : List Value) : List Value := (List.replicate m mk).flatten
theorem rep_len (m : Nat) (mk : List Value) : (rep m mk).length = m * mk.length := by simp [rep]
theorem rep_succ (m : Nat) (mk : List Value) : rep (m + 1) mk = rep m mk ++ mk := by
  simp [rep, List.replicate_succ']
theorem rep_at {m : Nat} {mk : List Value} {j i : Nat} (hj : j < m) (hi : i < mk.length) : (rep m mk)[j * mk.length + i]? = mk[i]? := by
  induction m with
  | zero => omega
  | succ m ih =>
    rw [rep_succ]
    by_cases h : j < m
    · rw [List.getElem?_append_left (by rw [rep_len]; have : (j + 1) * mk.length ≤ m * mk.length := Nat.mul_le_mul_right _ h; rw [Nat.add_mul] at this; omega)]
      exact ih h
    · obtain rfl : j = m := by omega
      rw [List.getElem?_append_right (by rw [rep_len]; omega), rep_len, Nat.add_sub_cancel_left]
theorem OwnS.reads {w : World} {e : TypeId} {sz : Nat} {a : Option Addr} {n c m : Nat} {mk : List Value} {ob : Option Nat} (h : OwnS w e sz a n c (rep n mk) ob) (hm : mk.length = sz) {s : Sl} (hs : s.a = a) (hb : s.ob = ob) (hn : s.n ≤ n) : Reads w sz s mk := fun j hj => by
  obtain ⟨g, hg, ha, hc⟩ := h.cells (by omega)
  refine ⟨g, by rw [hs, ha], by rw [hb, hg], fun i v hv => ?_⟩
  have hi := (List.getElem?_eq_some_iff.1 hv).1
  have := hc (j * sz + i) v (by rw [← hm, rep_at (by omega) hi]; exact hv)
  rw [show 0 + j * sz + i = 0 + (j * sz + i) by omega]; exact this
theorem Reads.evo {w w' : World} {sz : Nat} {s : Sl} {mk : List Value} {X : List Nat} (h : Reads w sz s mk) (he : Evo X w w') (hx : ∀ g, s.ob = some g → g ∉ X) : Reads w' sz s mk := fun j hj => by
  obtain ⟨g, h1, h2, h3⟩ := h j hj
  exact ⟨g, h1, h2, h3.evo he (hx g h2)⟩
/-- The grown slices t beside the given ones s. -/
structure Pair (w : World) (e : TypeId) (sz N : Nat) (s t : Nat → Sl) (mk : Nat → List Value) : Prop where
  fam : Fam w e sz N t (fun k => rep (t k).n (mk k))
  lt : ∀ k, k < N → Lt w (s k).ob
  ap : ∀ i j, i < N → j < N → i ≠ j → Apart (t i).ob (s j).ob
  old : ∀ k, k < N → ((t k).ob = (s k).ob ∧ (s k).n ≤ (t k).n) ∨ (Apart (t k).ob (s k).ob ∧ Reads w sz (s k) (mk k))
  addr : ∀ k, k < N → (s k).a = (s k).ob.map fun g => ⟨g, 0, none⟩
section
variable {w w' : World} {e : TypeId} {sz N : Nat} {s t : Nat → Sl} {mk : Nat → List Value} {X : List Nat} {i : Nat}
theorem Pair.reads (h : Pair w e sz N s t mk) (hm : ∀ k, (mk k).length = sz) {k : Nat} (hk : k < N) : Reads w sz (s k) (mk k) := by
  rcases h.old k hk with ⟨h1, h2⟩ | ⟨_, h2⟩
  · have ho := h.fam.own k hk
    exact OwnS.reads (m := 0) ho (hm k) (by rw [h.addr k hk, own_addr ho, h1]) h1.symm h2
  · exact h2
theorem Pair.evo0 (h : Pair w e sz N s t mk) (he : Evo [] w w') : Pair w' e sz N s t mk where
  fam := h.fam.evo0 he
  lt := fun k hk g hg => Nat.lt_of_lt_of_le (h.lt k hk g hg) he.size
  ap := h.ap
  old := fun k hk => (h.old k hk).imp id fun ⟨h1, h2⟩ => ⟨h1, h2.evo he (fun _ _ h => by cases h)⟩
  addr := h.addr
theorem Pair.evo (h : Pair w e sz N s t mk) (he : Evo X w w') (h1 : ∀ k, k < N → ∀ g, (t k).ob = some g → g ∉ X) (h2 : ∀ k, k < N → ∀ g, (s k).ob = some g → g ∉ X) : Pair w' e sz N s t mk where
  fam := h.fam.evo he h1
  lt := fun k hk g hg => Nat.lt_of_lt_of_le (h.lt k hk g hg) he.size
  ap := h.ap
  old := fun k hk => (h.old k hk).imp id fun ⟨h3, h4⟩ => ⟨h3, h4.evo he (h2 k hk)⟩
  addr := h.addr
/-- One more is appended to the i-th. -/
theorem Pair.app (h : Pair w e sz N s t mk) (hm : ∀ k, (mk k).length = sz) (hi : i < N) {r : Sl} (hn : r.n = (t i).n + 1) (ho : OwnS w' e sz r.a r.n r.c (rep r.n (mk i)) r.ob) (he : Evo (t i).ob.toList w w') (hb : r.ob = (t i).ob ∨ ∃ g, r.ob = some g ∧ w.heap.size ≤ g ∧ Evo [] w w') :
    Pair w' e sz N s (fun k => if k = i then r else t k) mk := by
  have hb' : r.ob = (t i).ob ∨ Ge w r.ob := hb.imp id fun ⟨g, h1, h2, _⟩ => fun g' hg' => by rw [h1] at hg'; cases hg'; exact h2
  have hsz := he.size
  refine ⟨(h.fam.upd hi ho he hb').congr (fun _ _ => rfl) (fun k hk => ?_), fun k hk g hg => Nat.lt_of_lt_of_le (h.lt k hk g hg) hsz, fun a b ha hb2 hab => ?_, fun k hk => ?_, h.addr⟩
  · by_cases hki : k = i
    · subst hki; simp only [if_true]
    · simp only [if_neg hki]
  · by_cases h1 : a = i
    · subst h1
      simp only [if_true]
      rcases hb' with h2 | h2
      · rw [h2]; exact h.ap a b ha hb2 hab
      · exact (Apart.fresh (h.lt b hb2) h2).symm
    · simp only [if_neg h1]; exact h.ap a b ha hb2 hab
  · by_cases hki : k = i
    · subst hki
      simp only [if_true]
      rcases hb with h1 | ⟨g, h1, h2, h3⟩
      · rw [h1, hn]
        rcases h.old k hk with ⟨h4, h5⟩ | ⟨h4, h5⟩
        · exact .inl ⟨h4, by omega⟩
        · exact .inr ⟨h4, h5.evo he (Apart.symm h4).own⟩
      · refine .inr ⟨(Apart.fresh (h.lt k hk) (fun g' hg' => by rw [h1] at hg'; cases hg'; exact h2)).symm, (h.reads hm hk).evo h3 (fun _ _ h => by cases h)⟩
    · simp only [if_neg hki]
      rcases h.old k hk with h4 | ⟨h4, h5⟩
      · exact .inl h4
      · exact .inr ⟨h4, h5.evo he ((h.ap i k hi hk (fun h => hki h.symm)).symm).own⟩
end
end Go.W
