/- IndexLists holds of every two lists whose values are together at most 1048576 (the form Upto): And, Or and Without answer as the reference does, each number once and rising, in memory of their own, and leave the lists as they were. -/
import Derived.Test.YtebghjbfdpeipaaRows
import Derived.Test.YtebghjbfdpeipaaIm
import Derived.Test.YtebghjbfdpeipaaFw3
import Derived.JoinedCond
namespace Go.Proofs.Ytebghjbfdpeipaa
open Go.Proofs
open Go.W Go.ChangeShapes Go.WideShapes Go.ChangeAt Go.RowKit
set_option linter.unusedVariables false
set_option linter.unusedSimpArgs false
set_option linter.unusedVariables false



theorem rnil0 {α : Type} {sz : Nat} {R : Rel α} {X : List Nat} {w : World} : RSl sz R X w (.slice none 0 0) [] := ⟨none, 0, rfl, by simp, fun k hk => by simp at hk⟩
theorem bulk_part {H : Type} {d : DataW H} {l : List (DataW H)} (h : d ∈ l) : Rows.uptoBulk d ≤ Rows.uptoBulkAll l := by
  induction l with
  | nil => cases h
  | cons x r ih =>
    simp only [Rows.uptoBulkAll]
    rcases List.mem_cons.1 h with e | e
    · subst e; omega
    · have := ih e; omega
theorem bulk_one {H : Type} (d : DataW H) : 1 ≤ Rows.uptoBulk d := by
  cases d with
  | lit l => cases l <;> simp [Rows.uptoBulk]
  | nil => simp [Rows.uptoBulk]
  | ptr d => simp [Rows.uptoBulk]
  | slice elems spare => simp [Rows.uptoBulk]
  | agg parts => simp [Rows.uptoBulk]
  | iface t d => simp [Rows.uptoBulk]
  | map entries => simp [Rows.uptoBulk]
  | held h => simp [Rows.uptoBulk]
theorem bulk_len {H : Type} (l : List (DataW H)) : l.length ≤ Rows.uptoBulkAll l := by
  induction l with
  | nil => simp [Rows.uptoBulkAll]
  | cons x r ih => have := bulk_one x; simp only [Rows.uptoBulkAll, List.length_cons]; omega

/-- What reads as data of a type, small together, stands for a datum. -/
def OpensU {α : Type} (t : TypeId) (R : Rel α) : Prop :=
  ∀ (H : Type) (enc : TypeId × Value → H) (w : World) (fuel : Nat) (cs : List Value) (x : DataW H × List MemPlace), DataW.trod enc Try.prog w 0 (fun _ => true) true fuel t cs = some x → Rows.uptoBulk x.1 ≤ 1048576 → ∃ d, R [] w cs d
theorem openU_int {t : TypeId} {k : IntKind} (ht : Try.prog.underlying t = some (.int k)) : OpensU t (RInt k) := by
  intro H enc w fuel cs x h _
  obtain ⟨n, hcs, _, hw⟩ := DataW.trod_int ht h
  refine ⟨n, hcs, ?_⟩
  simpa [Lit.wf] using hw
def RSlU {α : Type} (sz : Nat) (R : Rel α) : Rel (List α) := fun X w vs ds => ∃ v, vs = [v] ∧ RSl sz R X w v ds ∧ ds.length ≤ 1048576
theorem openU_slice {α : Type} {t e : TypeId} {R : Rel α} {sz : Nat} (ht : Try.prog.underlying t = some (.slice e)) (hs : Try.prog.cellsOf e = sz) (h0 : 0 < sz) (hR : OpensU e R) : OpensU t (RSlU sz R) := by
  subst hs
  intro H enc w fuel cs x h hw
  rcases DataW.trod_slice ht h with ⟨rfl, rfl⟩ | ⟨a, len, cap, elems, rest, n, rfl, rfl, rfl, _, hle, _, hel, hat, _, _⟩
  · exact ⟨[], .slice none 0 0, rfl, rnil0, Nat.zero_le _⟩
  · simp only [Rows.uptoBulk] at hw
    have hwl : elems.length ≤ 1048576 := by
      have := bulk_len (elems.map (·.1))
      simp at this
      omega
    have hwe : ∀ i (hi : i < elems.length), Rows.uptoBulk (elems[i]).1 ≤ 1048576 := fun i hi => by
      have := bulk_part (d := (elems[i]).1) (l := elems.map (·.1)) (List.mem_map.2 ⟨elems[i], List.getElem_mem hi, rfl⟩)
      omega
    have key : ∀ i (hi : i < len), ∃ b o vs d, a = ⟨b, o, none⟩ ∧ vs.length = Try.prog.cellsOf e ∧ CellsAt w b (o + i * Try.prog.cellsOf e) vs ∧ R [] w vs d := by
      intro i hi
      have h1 := hat i hi
      have hi' : i < elems.length := by omega
      rw [List.getElem?_eq_getElem hi'] at h1
      obtain ⟨vs, hvs, htr⟩ := Option.bind_eq_some_iff.1 h1
      obtain ⟨hl, hc⟩ := cells?_at hvs
      obtain ⟨d, hd⟩ := hR H enc w n vs _ htr (hwe i hi')
      obtain ⟨b, o, spot⟩ := a
      have hspot : spot = none := by
        cases vs with
        | nil => simp at hl; omega
        | cons v0 vs =>
          have h2 := hc 0 v0 (by simp)
          have h3 := World.cell?_spot h2
          by_cases hz : i * Try.prog.cellsOf e = 0
          · rw [hz] at h3; simpa [Addr.add] using h3
          · have hat0 := hat 0 (by omega)
            rw [List.getElem?_eq_getElem (by omega)] at hat0
            obtain ⟨us, hus, _⟩ := Option.bind_eq_some_iff.1 hat0
            obtain ⟨hul, huc⟩ := cells?_at hus
            cases us with
            | nil => simp at hul; omega
            | cons u0 us =>
              have h4 := World.cell?_spot (huc 0 u0 (by simp))
              simpa [Addr.add] using h4
      subst hspot
      refine ⟨b, o, vs, d, rfl, hl, fun j v hv => ?_, hd⟩
      have h2 := hc j v hv
      have hadd : ((⟨b, o, none⟩ : Addr).add (i * Try.prog.cellsOf e)).add j = ⟨b, o + i * Try.prog.cellsOf e + j, none⟩ := by
        unfold Addr.add
        split <;> split <;> simp_all
      rw [hadd] at h2
      exact h2
    have hex : ∀ m, m ≤ len → ∃ ds : List α, ds.length = m ∧ ∀ k (hk : k < ds.length), ∃ b o vs, some a = some ⟨b, o, none⟩ ∧ b ∉ ([] : List Nat) ∧ vs.length = Try.prog.cellsOf e ∧ CellsAt w b (o + k * Try.prog.cellsOf e) vs ∧ R [] w vs ds[k] := by
      intro m
      induction m with
      | zero => exact fun _ => ⟨[], rfl, fun k hk => by simp at hk⟩
      | succ m ih =>
        intro hm
        obtain ⟨ds, hl, hds⟩ := ih (by omega)
        obtain ⟨b, o, vs, d, ha, h1, h2, h3⟩ := key m (by omega)
        refine ⟨ds ++ [d], by simp [hl], fun k hk => ?_⟩
        by_cases hkm : k < ds.length
        · rw [List.getElem_append_left hkm]; exact hds k hkm
        · obtain rfl : k = m := by simp at hk; omega
          rw [List.getElem_append_right (by omega)]
          simp only [hl, Nat.sub_self, List.getElem_cons_zero]
          exact ⟨b, o, vs, by rw [ha], by simp, h1, h2, h3⟩
    obtain ⟨ds, hl, hds⟩ := hex len (Nat.le_refl _)
    exact ⟨ds, .slice (some a) len cap, rfl, ⟨some a, cap, by rw [hl], by omega, hds⟩, by omega⟩


theorem openU22 : OpensU 22 (RSlU 1 (RInt .i64)) := openU_slice Try.underlying22 (by kernel_rfl) (by decide) (openU_int Try.underlying3)
theorem rz_of {X : List Nat} {w : World} {v : Value} {l : List Int} (h : RSl 1 (RInt .i64) X w v l) : RSl 1 RZ X w v l := by
  obtain ⟨a, c, hv, hc, h⟩ := h
  exact ⟨a, c, hv, hc, fun k hk => by obtain ⟨b, o, vs, h1, h2, h3, h4, h5⟩ := h k hk; exact ⟨b, o, vs, h1, h2, h3, h4, h5.1⟩⟩
theorem own : ownKnob Try.prog.godebug = none := by kernel_rfl
theorem laidOut : laidOutB Try.prog = true := by kernel_rfl
set_option maxRecDepth 100000 in
theorem contract (H : Type) (enc : TypeId × Value → H) (W : World) (base : Nat) (args : Array Value) (ds gs : List (DataW H)) (before : List MemPlace) (hk : Rows.uptoSmall H (ds ++ gs) = true)
    (hval : ∀ (j : Nat) t v, Try.f3.params[j]? = some t → args[j]? = some v → Value.okWide Try.prog W .any base t v)
    (hW : DataW.Whole enc Try.prog Try.f3.params.toList Rows.indexListsSpec.vars false W args.toList ds gs before) :
    Calls Try.prog 3 args W fun e W' => ∃ v, e = .returned v ∧ Rows.indexListsSpec.post enc Try.prog Try.f3 false true false false W args v W' := by
  have hW' := hW
  obtain ⟨p, q, hA0, hV, rfl, hfz, hnd⟩ := hW
  have hA : DataW.TrodAll enc Try.prog W 0 (fun _ => true) true Try.f3.params.toList args.toList ds p := hA0
  rw [Try.params3] at hA hval
  obtain ⟨v0, vs0, d0, ds0, p0, q0, hargs, rfl, rfl, h0, r0⟩ := trodAll_cons hA
  obtain ⟨v1, vs1, d1, ds1, p1, q1, rfl, rfl, rfl, h1, r1⟩ := trodAll_cons r0
  obtain ⟨rfl, rfl, rfl⟩ := trodAll_nil r1
  obtain rfl : args = #[v0, v1] := by cases args; simp_all
  obtain ⟨rfl, rfl⟩ := trodVars_none hV
  have k0 := h0
  have k1 := h1
  have lt0 : ∀ x ∈ p0, x.block < W.heap.size := by obtain ⟨m, hm⟩ := k0; exact DataW.trod_lt m _ _ _ hm
  have lt1 : ∀ x ∈ p1, x.block < W.heap.size := by obtain ⟨m, hm⟩ := k1; exact DataW.trod_lt m _ _ _ hm
  obtain ⟨f0, hf0⟩ := h0
  obtain ⟨f1, hf1⟩ := h1
  have hb : Rows.uptoBulk d0 + Rows.uptoBulk d1 ≤ 1048576 := by
    have h := of_decide_eq_true hk
    simp only [List.append_nil, Rows.uptoBulkAll] at h
    omega
  obtain ⟨la, va, hva, hla, hla2⟩ := openU22 H enc W f0 _ _ hf0 (by simp only; omega)
  obtain ⟨lb, vb, hvb, hlb, hlb2⟩ := openU22 H enc W f1 _ _ hf1 (by simp only; omega)
  obtain ⟨sa, sn, sc, rfl⟩ := okWide_slice Try.underlying22 (hval 0 22 _ rfl rfl)
  obtain ⟨ta, tn, tc, rfl⟩ := okWide_slice Try.underlying22 (hval 1 22 _ rfl rfl)
  have hv2 : [Value.slice sa sn sc] = [va] := hva
  have hv3 : [Value.slice ta tn tc] = [vb] := hvb
  cases hv2
  cases hv3
  refine (law_ok (rz_of hla) (rz_of hlb) hla2 hlb2).mono fun e W' ⟨v, he, hv, bel⟩ => ?_
  subst he hv
  exact ⟨_, rfl, _, _, _, [], _, [], hW', trodAll_mk1 (shut_bool Try.underlying4 _), (trodAll_cons_mk (Below.trod laidOut (by kernel_rfl) (of_decide_eq_true (by kernel_rfl)) k0 bel.below lt0) (trodAll_cons_mk (Below.trod laidOut (by kernel_rfl) (of_decide_eq_true (by kernel_rfl)) k1 bel.below lt1) trodAll_mk0)), rfl, bel.below.frame _, fun h => by cases h⟩
set_option maxRecDepth 100000 in
theorem lifted (os : Os) (started : os.Started) (H : Type) (enc : TypeId × Value → H) (F : Stop.Interp) :
    ReturnsInHanded {} Try.checked os 3 .any ((Rows.OpenSpec.upto Rows.indexListsSpec).pre6 enc Try.prog Try.f3 Rows.indexListsUptoRow.domain false) (((Rows.OpenSpec.upto Rows.indexListsSpec).at F).post enc Try.prog Try.f3 false true false false) := by
  refine returnsInHanded_of_cond (C := Try.checked) (s := Rows.OpenSpec.upto Rows.indexListsSpec) (k := Rows.uptoSmall) rfl own started (by kernel_rfl) Try.func3
    (OpenSpec.witness (enc := enc) (C := Try.checked) (s := Rows.OpenSpec.upto Rows.indexListsSpec) (k := Rows.uptoSmall) rfl false ⟨#[], #[.slice none 0 0, .slice none 0 0], []⟩ 8 (by kernel_rfl) (by kernel_rfl) (by kernel_rfl)
      (x := ([.nil, .nil], [], [])) (by kernel_rfl) rfl (by kernel_rfl)) ?_
  intro W base args ds gs before hval hW _ hk _
  exact contract H enc W base args ds gs before hk hval hW
theorem over : Rows.indexListsUptoRow.holds Try.pinned (Rows.OpenSpec.upto Rows.indexListsSpec) :=
  OpenClaim.holds_of_cond 3 Try.f3 rfl rfl rfl rfl rfl rfl rfl ⟨rfl, rfl, rfl, rfl, rfl⟩ rfl rfl rfl rfl rfl (by kernel_rfl) Try.func3 (by kernel_rfl)
    (of_decide_eq_true (by kernel_rfl)) (by unfold Func.isWrapper; first | (rw [if_pos (by decide +kernel)]; kernel_rfl) | (rw [if_neg (by decide +kernel)]; exact ⟨rfl, rfl⟩))
    (fun os started H enc _ F => lifted os started H enc F)
theorem indexLists_holds : Rows.IndexListsUptoSaid := over
#print axioms indexLists_holds

end Go.Proofs.Ytebghjbfdpeipaa
