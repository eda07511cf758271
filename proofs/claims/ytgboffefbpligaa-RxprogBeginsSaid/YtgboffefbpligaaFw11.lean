/- What reads as data of a type that holds itself: fuel told. -/
import Derived.Test.YtgboffefbpligaaFw3
namespace Go.W
open Go.RowKit Go.ChangeShapes
set_option linter.unusedVariables false
set_option linter.unusedSimpArgs false
/-- The same, with at most so much fuel. -/
def OpensF {α : Type} (F : Nat) (P : Program) (t : TypeId) (R : Rel α) : Prop :=
  ∀ (H : Type) (enc : TypeId × Value → H) (w : World) (fuel : Nat) (cs : List Value) (x : DataW H × List MemPlace), fuel ≤ F → DataW.trod enc P w 0 (fun _ => true) true fuel t cs = some x →
    (∀ n, n ∈ x.1.weights P t → n ≤ reachBytes) → ∃ d, R [] w cs d
theorem Opens.fuel {α : Type} {P : Program} {t : TypeId} {R : Rel α} (h : Opens P t R) (F : Nat) : OpensF F P t R := fun H enc w fuel cs x _ h1 h2 => h H enc w fuel cs x h1 h2
theorem OpensF.all {α : Type} {P : Program} {t : TypeId} {R : Rel α} (h : ∀ F, OpensF F P t R) : Opens P t R := fun H enc w fuel cs x h1 h2 => h fuel H enc w fuel cs x (Nat.le_refl _) h1 h2
theorem opensF_slice {α : Type} {F : Nat} {P : Program} {t e : TypeId} {R : Rel α} {sz bytes : Nat} (ht : P.underlying t = some (.slice e)) (hs : P.cellsOf e = sz) (hb : P.bytesOf e = bytes) (h0 : 0 < sz) (hR : OpensF F P e R) : OpensF F P t (RSlB sz bytes R) := by
  subst hs hb
  intro H enc w fuel cs x hfu h hw
  rcases DataW.trod_slice ht h with ⟨rfl, rfl⟩ | ⟨a, len, cap, elems, rest, n, rfl, rfl, rfl, _, hle, _, hel, hat, _, _⟩
  · exact ⟨[], .slice none 0 0, rfl, ⟨none, 0, rfl, Nat.le_refl _, fun k hk => by simp at hk⟩, by simp⟩
  · have hwl : (elems.length + rest.length) * P.bytesOf e ≤ 140737488351232 := by
      have := hw _ (by simp [DataW.weights, ht]; exact .inl rfl)
      simpa [reachBytes] using this
    have hwe : ∀ i (hi : i < elems.length) m, m ∈ (elems[i]).1.weights P e → m ≤ reachBytes := fun i hi m hm => by
      refine hw m ?_
      simp only [DataW.weights, ht, List.mem_cons, List.mem_append]
      exact .inr (.inl (weights_all (List.mem_map.2 ⟨elems[i], List.getElem_mem hi, rfl⟩) m hm))
    have key : ∀ i (hi : i < len), ∃ b o vs d, a = ⟨b, o, none⟩ ∧ vs.length = P.cellsOf e ∧ CellsAt w b (o + i * P.cellsOf e) vs ∧ R [] w vs d := by
      intro i hi
      have h1 := hat i hi
      have hi' : i < elems.length := by omega
      rw [List.getElem?_eq_getElem hi'] at h1
      obtain ⟨vs, hvs, htr⟩ := Option.bind_eq_some_iff.1 h1
      obtain ⟨hl, hc⟩ := cells?_at hvs
      obtain ⟨d, hd⟩ := hR H enc w n vs _ (by omega) htr (hwe i hi')
      obtain ⟨b, o, spot⟩ := a
      have hspot : spot = none := by
        cases vs with
        | nil => simp at hl; omega
        | cons v0 vs =>
          have h2 := hc 0 v0 (by simp)
          have h3 := World.cell?_spot h2
          by_cases hz : i * P.cellsOf e = 0
          · rw [hz] at h3; simpa [Addr.add] using h3
          · have hz' : i * P.cellsOf e ≠ 0 := hz
            have hat0 := hat 0 (by omega)
            rw [List.getElem?_eq_getElem (by omega)] at hat0
            obtain ⟨us, hus, _⟩ := Option.bind_eq_some_iff.1 hat0
            obtain ⟨hul, huc⟩ := cells?_at hus
            cases us with
            | nil => simp at hul; omega
            | cons u0 us =>
              have h4 := World.cell?_spot (huc 0 u0 (by simp))
              simpa [Addr.add] using h4
      subst hspot
      refine ⟨b, o, vs, d, rfl, hl, fun j v hv => ?_, hd⟩
      have h2 := hc j v hv
      have hadd : ((⟨b, o, none⟩ : Addr).add (i * P.cellsOf e)).add j = ⟨b, o + i * P.cellsOf e + j, none⟩ := by
        unfold Addr.add
        split <;> split <;> simp_all
      rw [hadd] at h2
      exact h2
    have hex : ∀ m, m ≤ len → ∃ ds : List α, ds.length = m ∧ ∀ k (hk : k < ds.length), ∃ b o vs, some a = some ⟨b, o, none⟩ ∧ b ∉ ([] : List Nat) ∧ vs.length = P.cellsOf e ∧ CellsAt w b (o + k * P.cellsOf e) vs ∧ R [] w vs ds[k] := by
      intro m
      induction m with
      | zero => exact fun _ => ⟨[], rfl, fun k hk => by simp at hk⟩
      | succ m ih =>
        intro hm
        obtain ⟨ds, hl, hds⟩ := ih (by omega)
        obtain ⟨b, o, vs, d, ha, h1, h2, h3⟩ := key m (by omega)
        refine ⟨ds ++ [d], by simp [hl], fun k hk => ?_⟩
        by_cases hkm : k < ds.length
        · rw [List.getElem_append_left hkm]; exact hds k hkm
        · obtain rfl : k = m := by simp at hk; omega
          rw [List.getElem_append_right (by omega)]
          simp only [hl, Nat.sub_self, List.getElem_cons_zero]
          exact ⟨b, o, vs, by rw [ha], by simp, h1, h2, h3⟩
    obtain ⟨ds, hl, hds⟩ := hex len (Nat.le_refl _)
    refine ⟨ds, .slice (some a) len cap, rfl, ⟨some a, cap, by rw [hl], by omega, hds⟩, ?_⟩
    rw [hl, ← hel]
    exact Nat.le_trans (Nat.mul_le_mul_right _ (Nat.le_add_right _ _)) hwl

/-- One field of a struct that came in. -/
theorem opensF_field {α H : Type} {F : Nat} {P : Program} {t : TypeId} {fs : Array Field} {enc : TypeId × Value → H} {w : World} {fuel : Nat} {cs : List Value} {x : DataW H × List MemPlace} (ht : P.underlying t = some (.struct fs))
    (h : DataW.trod enc P w 0 (fun _ => true) true fuel t cs = some x) (hw : ∀ n, n ∈ x.1.weights P t → n ≤ reachBytes) (i : Nat) {f : Field} (hf : fs[i]? = some f) {R : Rel α} (hfu : fuel ≤ F + 1) (hR : OpensF F P f.type R) : ∃ d, R [] w ((cs.drop f.offset).take (P.cellsOf f.type)) d := by
  obtain ⟨xs, n, rfl, rfl, hl, hlen, hx⟩ := DataW.trod_struct ht h
  have hi : i < xs.length := by rw [hlen]; exact (Array.getElem?_eq_some_iff.1 hf).1
  have h1 := hx i f hf
  rw [List.getElem?_eq_getElem hi] at h1
  exact hR H enc w n _ _ (by omega) h1 (fun m hm => hw m (weights_field ht hf (by simp [hi]) m hm))
theorem opensF_fieldN {α H : Type} {F : Nat} {P : Program} {t T off m : Nat} {fs : Array Field} {enc : TypeId × Value → H} {w : World} {fuel : Nat} {cs : List Value} {x : DataW H × List MemPlace} (ht : P.underlying t = some (.struct fs))
    (h : DataW.trod enc P w 0 (fun _ => true) true fuel t cs = some x) (hw : ∀ n, n ∈ x.1.weights P t → n ≤ reachBytes) (i : Nat) {f : Field} (hf : fs[i]? = some f) (hT : f.type = T) (ho : f.offset = off) (hm : P.cellsOf T = m) {R : Rel α} (hfu : fuel ≤ F + 1) (hR : OpensF F P T R) : ∃ d, R [] w ((cs.drop off).take m) d := by
  subst hT ho hm
  exact opensF_field ht h hw i hf hfu hR
end Go.W
