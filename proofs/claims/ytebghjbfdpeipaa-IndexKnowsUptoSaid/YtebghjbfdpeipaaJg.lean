/- IndexKnows, plain: what is found under a name and a value. -/
import Derived.Test.YtebghjbfdpeipaaJa
import Derived.Test.YtebghjbfdpeipaaJd
namespace Go.Proofs.Ytebghjbfdpeipaa
open Go.W Go.RowKit
set_option linter.unusedVariables false
set_option linter.unusedSimpArgs false

theorem nm_inj {D : List En} {e e2 : En} (h : (D.map En.nm).Nodup) (h1 : e ∈ D) (h2 : e2 ∈ D) (he : e.nm = e2.nm) : e = e2 := by
  induction D with
  | nil => simp at h1
  | cons x D ih =>
    simp only [List.map_cons, List.nodup_cons] at h
    rcases List.mem_cons.1 h1 with k1 | k1 <;> rcases List.mem_cons.1 h2 with k2 | k2
    · rw [k1, k2]
    · exact absurd (by rw [← k1, he]; exact List.mem_map.2 ⟨e2, k2, rfl⟩) h.1
    · exact absurd (by rw [← k2, ← he]; exact List.mem_map.2 ⟨e, k1, rfl⟩) h.1
    · exact ih h.2 k1 k2
theorem Knows.ids_eq {D : List En} {T : List Tr} {e : En} {V1 V2 o : List Vl} {ids : List Int} {v : ByteArray} (h : Knows D T) (he : e ∈ D) (hv : e.vs = V1 ++ o ++ V2)
    (hc : (o = [] ∧ v ∉ (V1 ++ V2).map Vl.v ∧ ids = []) ∨ ∃ x, o = [x] ∧ v = x.v ∧ ids = x.ids) : ids = idsOf T e.nm v := by
  rcases hc with ⟨rfl, h2, rfl⟩ | ⟨x, rfl, rfl, rfl⟩
  · unfold idsOf
    rw [List.filter_eq_nil_iff.2, List.map_nil]
    intro t ht hd
    have hd := of_decide_eq_true hd
    obtain ⟨e2, h3, h4, x2, h5, h6⟩ := h.has t ht
    obtain rfl := nm_inj h.nmN he h3 (by rw [h4, hd.1])
    rw [hv, List.append_nil] at h5
    exact h2 (List.mem_map.2 ⟨x2, h5, by rw [h6, hd.2]⟩)
  · exact (h.ids e he x (by rw [hv]; simp)).1
theorem Knows.look {D : List En} {T : List Tr} {e : En} (h : Knows D T) (he : e ∈ D) : mlook (D.map En.kv) e.nm = some (.map (some e.mb)) := by
  have := mlook_of_mem (f := En.kv) (l := D) (by rw [List.map_map]; exact h.nmN) he
  exact this
theorem sum_ge {α : Type} {l : List α} {f : α → Nat} (h : ∀ x, x ∈ l → 1 ≤ f x) : l.length ≤ (l.map f).sum := by
  induction l with
  | nil => simp
  | cons x l ih =>
    have h1 := h x (by simp)
    have h2 := ih (fun y hy => h y (by simp [hy]))
    simp only [List.length_cons, List.map_cons, List.sum_cons]; omega
theorem sum_mem {α : Type} {l : List α} {f : α → Nat} {x : α} (h : x ∈ l) : f x ≤ (l.map f).sum := by
  induction l with
  | nil => simp at h
  | cons y l ih =>
    simp only [List.map_cons, List.sum_cons]
    rcases List.mem_cons.1 h with rfl | h
    · omega
    · have := ih h; omega
def En.cnt (e : En) : Nat := (e.vs.map fun x => x.ids.length).sum
theorem Knows.vs_le {D : List En} {T : List Tr} {e : En} (h : Knows D T) (he : e ∈ D) : e.vs.length ≤ e.cnt := by
  refine sum_ge fun x hx => ?_
  have := (h.ids e he x hx).2
  exact List.length_pos_iff.2 this
theorem Knows.cnt_le {D : List En} {T : List Tr} {e : En} (h : Knows D T) (he : e ∈ D) : e.cnt ≤ T.length := by
  rw [← h.sum]; exact sum_mem (f := En.cnt) he
theorem Knows.len_le {D : List En} {T : List Tr} (h : Knows D T) : D.length ≤ T.length := by
  rw [← h.sum]
  refine sum_ge (f := En.cnt) fun e he => ?_
  have h1 := h.vs_le he
  have h2 := List.length_pos_iff.2 (h.ne e he)
  omega
theorem perm_sum {α : Type} {l r : List α} (f : α → Nat) (h : l.Perm r) : (l.map f).sum = (r.map f).sum := (h.map f).sum_nat
/-- The sum over the sorted names and values is the number of all labels. -/
theorem Knows.total {D : List En} {T : List Tr} {names : List ByteArray} {F : ByteArray → Nat} (h : Knows D T) (hp : names.Perm (D.map En.nm)) (hF : ∀ e, e ∈ D → F e.nm = e.cnt) : (names.map F).sum = T.length := by
  rw [perm_sum F hp, List.map_map, ← h.sum]
  unfold tot
  congr 1
  exact List.map_congr_left fun e he => hF e he
theorem Knows.valsum {D : List En} {T : List Tr} {e : En} {vals : List ByteArray} (h : Knows D T) (he : e ∈ D) (hp : vals.Perm (e.vs.map Vl.v)) : (vals.map fun v => (idsOf T e.nm v).length).sum = e.cnt := by
  rw [perm_sum _ hp, List.map_map]
  unfold En.cnt
  congr 1
  exact List.map_congr_left fun x hx => by show (idsOf T e.nm x.v).length = _; rw [← (h.ids e he x hx).1]
theorem mem_ids {T : List Tr} {n v : ByteArray} {i : Int} : i ∈ idsOf T n v ↔ (n, v, i) ∈ T := by
  unfold idsOf
  rw [List.mem_map]
  constructor
  · rintro ⟨t, ht, rfl⟩
    have := List.mem_filter.1 ht
    have h2 := of_decide_eq_true this.2
    obtain ⟨a, b, c⟩ := t
    simp only at h2
    obtain ⟨rfl, rfl⟩ := h2
    exact this.1
  · intro h
    exact ⟨_, List.mem_filter.2 ⟨h, by simp⟩, rfl⟩
theorem mem_rows {sets : List (List LB)} {n v : ByteArray} {i : Nat} {m : Nat} : (n, v, (i : Int)) ∈ rowsTo sets m ↔ i < m ∧ ∃ h : i < sets.length, (n, v) ∈ sets[i] := by
  unfold rowsTo
  rw [List.mem_flatMap]
  constructor
  · rintro ⟨j, hj, h⟩
    unfold rowsOf at h
    obtain ⟨l, hl, he⟩ := List.mem_map.1 h
    obtain ⟨h1, h2, h3⟩ := (by simpa using he : l.1 = n ∧ l.2 = v ∧ (j : Int) = i)
    have h3 : j = i := by omega
    subst h1 h2 h3
    refine ⟨List.mem_range.1 hj, ?_⟩
    by_cases hjl : j < sets.length
    · refine ⟨hjl, ?_⟩
      simpa [hjl] using hl
    · simp [Nat.not_lt.1 hjl] at hl
  · rintro ⟨h1, h2, h3⟩
    exact ⟨i, List.mem_range.2 h1, List.mem_map.2 ⟨(n, v), by simpa [h2] using h3, rfl⟩⟩
/-- A rising list of numbers whose members are those of a list cut by one number. -/
theorem sr_one {l : List Int} {i : Int} (h : SR l) (hm : ∀ x, x ∈ l ↔ x = i) : l.length = 1 := by
  have := SR.ext h (r := [i]) (by simp [SR]) (fun x => by rw [hm]; simp)
  rw [this]; rfl
theorem sr_none {l : List Int} (hm : ∀ x, ¬ x ∈ l) : l.length = 0 := by
  cases l with
  | nil => rfl
  | cons x l => exact absurd (by simp) (hm x)
theorem SRs.at {l : List ByteArray} (h : SRs l) {k : Nat} (hk : k < l.length) (h0 : 0 < k) : ¬ (l[k].toList < l[k - 1].toList ∨ l[k].toList = l[k - 1].toList) := by
  have := List.pairwise_iff_getElem.1 h (k - 1) k (by omega) hk (by omega)
  rintro (h1 | h1)
  · exact absurd (List.lt_trans this h1) (List.lt_irrefl _)
  · rw [h1] at this; exact absurd this (List.lt_irrefl _)
theorem take_sum {α : Type} {l : List α} (f : α → Nat) {k : Nat} (h : k < l.length) : ((l.take (k + 1)).map f).sum = ((l.take k).map f).sum + f l[k] := by
  rw [List.take_succ_eq_append_getElem h, List.map_append, List.sum_append]; simp
theorem mem_rows' {sets : List (List LB)} {m : Nat} {t : Tr} (h : t ∈ rowsTo sets m) : ∃ i, ∃ h : i < sets.length, i < m ∧ t.2.2 = (i : Int) ∧ (t.1, t.2.1) ∈ sets[i] := by
  unfold rowsTo at h
  obtain ⟨j, hj, h⟩ := List.mem_flatMap.1 h
  unfold rowsOf at h
  obtain ⟨l, hl, rfl⟩ := List.mem_map.1 h
  have hjm := List.mem_range.1 hj
  by_cases hjl : j < sets.length
  · exact ⟨j, hjl, hjm, rfl, by simpa [hjl] using hl⟩
  · simp [Nat.not_lt.1 hjl] at hl
def fcnt (D : List En) (n : ByteArray) : Nat := match D.find? (fun e => decide (e.nm = n)) with | some e => e.cnt | none => 0
theorem fcnt_of {D : List En} {e : En} (hn : (D.map En.nm).Nodup) (he : e ∈ D) : fcnt D e.nm = e.cnt := by
  unfold fcnt
  cases hf : D.find? (fun e' => decide (e'.nm = e.nm)) with
  | none => have := List.find?_eq_none.1 hf e he; simp at this
  | some e2 =>
    have h1 := List.mem_of_find?_eq_some hf
    have h2 : e2.nm = e.nm := by have := List.find?_some hf; simpa using this
    rw [nm_inj hn h1 he h2]
theorem row_here {sets : List (List LB)} {i k : Nat} (hi : i < sets.length) (hk : k < (sets[i]).length) : (((sets[i])[k]).1, ((sets[i])[k]).2, (i : Int)) ∈ rowsTo sets sets.length :=
  mem_rows.2 ⟨hi, hi, List.getElem_mem hk⟩
/-- Under another value of the name the set is not found. -/
theorem row_other {sets : List (List LB)} {i k : Nat} {u : ByteArray} (hi : i < sets.length) (hk : k < (sets[i]).length) (hv : lbOk sets[i]) (hu : ¬ u = ((sets[i])[k]).2) : ¬ (((sets[i])[k]).1, u, (i : Int)) ∈ rowsTo sets sets.length := fun h => by
  obtain ⟨_, _, h2⟩ := mem_rows.1 h
  obtain ⟨j, hj, he⟩ := List.getElem_of_mem h2
  have h3 : j = k := hv.uniq hj hk (by rw [he])
  subst h3
  rw [he] at hu
  exact hu rfl
theorem val_ne {sets : List (List LB)} {n v : ByteArray} (hv : ∀ i (h : i < sets.length), lbOk sets[i]) (h : idsOf (rowsTo sets sets.length) n v ≠ []) : ¬ v = ByteArray.mk #[] := by
  obtain ⟨i, hi⟩ := List.exists_mem_of_ne_nil _ h
  obtain ⟨j, hj, _, _, hm⟩ := mem_rows' (mem_ids.1 hi)
  obtain ⟨k, hk, he⟩ := List.getElem_of_mem hm
  have := (hv j hj k hk).2.1
  rw [he] at this
  exact this
theorem val_has {T : List Tr} {n v : ByteArray} (h : idsOf T n v ≠ []) : ∃ t, t ∈ T ∧ t.1 = n := by
  obtain ⟨i, hi⟩ := List.exists_mem_of_ne_nil _ h
  exact ⟨_, mem_ids.1 hi, rfl⟩
theorem app_ne (v : ByteArray) : ¬ v ++ ByteArray.mk #[120] = v ∧ ¬ v ++ ByteArray.mk #[120] = ByteArray.mk #[] := by
  have hs : (v ++ ByteArray.mk #[120]).size = v.size + 1 := ByteArray.size_append
  constructor
  · intro h; rw [h] at hs; omega
  · intro h; rw [h] at hs; have : (ByteArray.mk #[]).size = 0 := rfl; omega
end Go.Proofs.Ytebghjbfdpeipaa
