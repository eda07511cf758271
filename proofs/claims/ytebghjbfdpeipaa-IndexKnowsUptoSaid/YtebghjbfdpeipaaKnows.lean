/- IndexKnows holds of every list of label sets whose values and letters are together at most 1048576 (the form Upto): each set is found under each of its labels and under no other value of that name; the names and values are those of the sets, rising, and no others. -/
import Derived.Test.YtebghjbfdpeipaaRows
import Derived.Test.YtebghjbfdpeipaaJi
import Derived.Test.YtebghjbfdpeipaaFw3
import Derived.JoinedCond
namespace Go.Proofs.Ytebghjbfdpeipaa
open Go.Proofs
open Go.W Go.ChangeShapes Go.WideShapes Go.ChangeAt Go.RowKit
set_option linter.unusedVariables false
set_option linter.unusedSimpArgs false
set_option linter.unusedVariables false



theorem rnil0 {α : Type} {sz : Nat} {R : Rel α} {X : List Nat} {w : World} : RSl sz R X w (.slice none 0 0) [] := ⟨none, 0, rfl, by simp, fun k hk => by simp at hk⟩
theorem bulk_part {H : Type} {d : DataW H} {l : List (DataW H)} (h : d ∈ l) : Rows.uptoBulk d ≤ Rows.uptoBulkAll l := by
  induction l with
  | nil => cases h
  | cons x r ih =>
    simp only [Rows.uptoBulkAll]
    rcases List.mem_cons.1 h with e | e
    · subst e; omega
    · have := ih e; omega
theorem bulk_one {H : Type} (d : DataW H) : 1 ≤ Rows.uptoBulk d := by
  cases d with
  | lit l => cases l <;> simp [Rows.uptoBulk]
  | nil => simp [Rows.uptoBulk]
  | ptr d => simp [Rows.uptoBulk]
  | slice elems spare => simp [Rows.uptoBulk]
  | agg parts => simp [Rows.uptoBulk]
  | iface t d => simp [Rows.uptoBulk]
  | map entries => simp [Rows.uptoBulk]
  | held h => simp [Rows.uptoBulk]
theorem bulk_len {H : Type} (l : List (DataW H)) : l.length ≤ Rows.uptoBulkAll l := by
  induction l with
  | nil => simp [Rows.uptoBulkAll]
  | cons x r ih => have := bulk_one x; simp only [Rows.uptoBulkAll, List.length_cons]; omega

/-- What reads as data of a type, small together, stands for a datum. -/
def OpensU {α : Type} (t : TypeId) (R : Rel α) : Prop :=
  ∀ (H : Type) (enc : TypeId × Value → H) (w : World) (fuel : Nat) (cs : List Value) (x : DataW H × List MemPlace), DataW.trod enc Try.prog w 0 (fun _ => true) true fuel t cs = some x → Rows.uptoBulk x.1 ≤ 1048576 → ∃ d, R [] w cs d
theorem openU_int {t : TypeId} {k : IntKind} (ht : Try.prog.underlying t = some (.int k)) : OpensU t (RInt k) := by
  intro H enc w fuel cs x h _
  obtain ⟨n, hcs, _, hw⟩ := DataW.trod_int ht h
  refine ⟨n, hcs, ?_⟩
  simpa [Lit.wf] using hw
def RStrU : Rel ByteArray := fun _ _ vs s => vs = [.string s] ∧ s.size ≤ 1048576
theorem openU_str {t : TypeId} (ht : Try.prog.underlying t = some .string) : OpensU t RStrU := by
  intro H enc w fuel cs x h hw
  obtain ⟨s, hcs, rfl, _⟩ := DataW.trod_string ht h
  refine ⟨s, hcs, ?_⟩
  simp only [Rows.uptoBulk] at hw
  have : s.data.toList.length = s.size := Array.length_toList
  omega
def RSlU {α : Type} (sz : Nat) (R : Rel α) : Rel (List α) := fun X w vs ds => ∃ v, vs = [v] ∧ RSl sz R X w v ds ∧ ds.length ≤ 1048576
/-- As OpensU, with a measure of the datum that what was read bounds. -/
def OpensM {α : Type} (t : TypeId) (R : Rel α) (μ : α → Nat) : Prop :=
  ∀ (H : Type) (enc : TypeId × Value → H) (w : World) (fuel : Nat) (cs : List Value) (x : DataW H × List MemPlace), DataW.trod enc Try.prog w 0 (fun _ => true) true fuel t cs = some x → Rows.uptoBulk x.1 ≤ 1048576 → ∃ d, R [] w cs d ∧ μ d ≤ Rows.uptoBulk x.1
theorem OpensU.one {α : Type} {t : TypeId} {R : Rel α} (h : OpensU t R) : OpensM t R (fun _ => 1) := fun H enc w fuel cs x h1 h2 => by
  obtain ⟨d, hd⟩ := h H enc w fuel cs x h1 h2
  exact ⟨d, hd, bulk_one _⟩
theorem bulk_take {H : Type} (l : List (DataW H)) (m : Nat) : Rows.uptoBulkAll (l.take m) ≤ Rows.uptoBulkAll l := by
  induction l generalizing m with
  | nil => simp [Rows.uptoBulkAll]
  | cons x r ih =>
    cases m with
    | zero => simp [Rows.uptoBulkAll]
    | succ m => have := ih m; simp only [List.take_succ_cons, Rows.uptoBulkAll]; omega
theorem bulk_snoc {H : Type} (l : List (DataW H)) (d : DataW H) : Rows.uptoBulkAll (l ++ [d]) = Rows.uptoBulkAll l + Rows.uptoBulk d := by
  induction l with
  | nil => simp [Rows.uptoBulkAll]
  | cons x r ih => simp only [List.cons_append, Rows.uptoBulkAll, ih]; omega
theorem openM_slice {α : Type} {t e : TypeId} {R : Rel α} {μ : α → Nat} {sz : Nat} (ht : Try.prog.underlying t = some (.slice e)) (hs : Try.prog.cellsOf e = sz) (h0 : 0 < sz) (hR : OpensM e R μ) : OpensM t (RSlU sz R) (fun ds => (ds.map μ).sum) := by
  subst hs
  intro H enc w fuel cs x h hw
  rcases DataW.trod_slice ht h with ⟨rfl, rfl⟩ | ⟨a, len, cap, elems, rest, n, rfl, rfl, rfl, _, hle, _, hel, hat, _, _⟩
  · exact ⟨[], ⟨.slice none 0 0, rfl, rnil0, Nat.zero_le _⟩, by simp⟩
  · simp only [Rows.uptoBulk] at hw
    have hwl : elems.length ≤ 1048576 := by
      have := bulk_len (elems.map (·.1))
      simp at this
      omega
    have hwe : ∀ i (hi : i < elems.length), Rows.uptoBulk (elems[i]).1 ≤ 1048576 := fun i hi => by
      have := bulk_part (d := (elems[i]).1) (l := elems.map (·.1)) (List.mem_map.2 ⟨elems[i], List.getElem_mem hi, rfl⟩)
      omega
    have key : ∀ i (hi : i < len), ∃ b o vs d, a = ⟨b, o, none⟩ ∧ vs.length = Try.prog.cellsOf e ∧ CellsAt w b (o + i * Try.prog.cellsOf e) vs ∧ R [] w vs d ∧ ∀ hi' : i < elems.length, μ d ≤ Rows.uptoBulk (elems[i]).1 := by
      intro i hi
      have h1 := hat i hi
      have hi' : i < elems.length := by omega
      rw [List.getElem?_eq_getElem hi'] at h1
      obtain ⟨vs, hvs, htr⟩ := Option.bind_eq_some_iff.1 h1
      obtain ⟨hl, hc⟩ := cells?_at hvs
      obtain ⟨d, hd, hmu⟩ := hR H enc w n vs _ htr (hwe i hi')
      obtain ⟨b, o, spot⟩ := a
      have hspot : spot = none := by
        cases vs with
        | nil => simp at hl; omega
        | cons v0 vs =>
          have h2 := hc 0 v0 (by simp)
          have h3 := World.cell?_spot h2
          by_cases hz : i * Try.prog.cellsOf e = 0
          · rw [hz] at h3; simpa [Addr.add] using h3
          · have hat0 := hat 0 (by omega)
            rw [List.getElem?_eq_getElem (by omega)] at hat0
            obtain ⟨us, hus, _⟩ := Option.bind_eq_some_iff.1 hat0
            obtain ⟨hul, huc⟩ := cells?_at hus
            cases us with
            | nil => simp at hul; omega
            | cons u0 us =>
              have h4 := World.cell?_spot (huc 0 u0 (by simp))
              simpa [Addr.add] using h4
      subst hspot
      refine ⟨b, o, vs, d, rfl, hl, fun j v hv => ?_, hd, fun _ => hmu⟩
      have h2 := hc j v hv
      have hadd : ((⟨b, o, none⟩ : Addr).add (i * Try.prog.cellsOf e)).add j = ⟨b, o + i * Try.prog.cellsOf e + j, none⟩ := by
        unfold Addr.add
        split <;> split <;> simp_all
      rw [hadd] at h2
      exact h2
    have hex : ∀ m, m ≤ len → ∃ ds : List α, ds.length = m ∧ (ds.map μ).sum ≤ Rows.uptoBulkAll ((elems.map (·.1)).take m) ∧ ∀ k (hk : k < ds.length), ∃ b o vs, some a = some ⟨b, o, none⟩ ∧ b ∉ ([] : List Nat) ∧ vs.length = Try.prog.cellsOf e ∧ CellsAt w b (o + k * Try.prog.cellsOf e) vs ∧ R [] w vs ds[k] := by
      intro m
      induction m with
      | zero => exact fun _ => ⟨[], rfl, by simp, fun k hk => by simp at hk⟩
      | succ m ih =>
        intro hm
        obtain ⟨ds, hl, hmu, hds⟩ := ih (by omega)
        obtain ⟨b, o, vs, d, ha, h1, h2, h3, h4⟩ := key m (by omega)
        have hme : m < elems.length := by omega
        have h4 := h4 hme
        have h5 : (elems.map (·.1)).take (m + 1) = (elems.map (·.1)).take m ++ [(elems[m]).1] := by rw [List.take_succ_eq_append_getElem (by simpa using hme)]; simp
        refine ⟨ds ++ [d], by simp [hl], by rw [h5, bulk_snoc, List.map_append, List.sum_append]; simp only [List.map_cons, List.map_nil, List.sum_cons, List.sum_nil]; omega, fun k hk => ?_⟩
        by_cases hkm : k < ds.length
        · rw [List.getElem_append_left hkm]; exact hds k hkm
        · obtain rfl : k = m := by simp at hk; omega
          rw [List.getElem_append_right (by omega)]
          simp only [hl, Nat.sub_self, List.getElem_cons_zero]
          exact ⟨b, o, vs, by rw [ha], by simp, h1, h2, h3⟩
    obtain ⟨ds, hl, hmu, hds⟩ := hex len (Nat.le_refl _)
    refine ⟨ds, ⟨.slice (some a) len cap, rfl, ⟨some a, cap, by rw [hl], by omega, hds⟩, by omega⟩, ?_⟩
    have h6 := bulk_take (elems.map (·.1)) len
    simp only [Rows.uptoBulk]
    omega
theorem openU_fieldN {α H : Type} {t T off m : Nat} {fs : Array Field} {enc : TypeId × Value → H} {w : World} {fuel : Nat} {cs : List Value} {x : DataW H × List MemPlace} (ht : Try.prog.underlying t = some (.struct fs))
    (h : DataW.trod enc Try.prog w 0 (fun _ => true) true fuel t cs = some x) (hw : Rows.uptoBulk x.1 ≤ 1048576) (i : Nat) {f : Field} (hf : fs[i]? = some f) (hT : f.type = T) (ho : f.offset = off) (hm : Try.prog.cellsOf T = m) {R : Rel α} (hR : OpensU T R) : ∃ d, R [] w ((cs.drop off).take m) d := by
  subst hT ho hm
  obtain ⟨xs, n, rfl, rfl, hl, hlen, hx⟩ := DataW.trod_struct ht h
  have hi : i < xs.length := by rw [hlen]; exact (Array.getElem?_eq_some_iff.1 hf).1
  have h1 := hx i f hf
  rw [List.getElem?_eq_getElem hi] at h1
  refine hR H enc w n _ _ h1 ?_
  simp only [Rows.uptoBulk] at hw
  have := bulk_part (d := (xs[i]).1) (l := xs.map (·.1)) (List.mem_map.2 ⟨xs[i], List.getElem_mem hi, rfl⟩)
  omega

theorem openU33 : OpensU 33 RLB := by
  intro H enc w fuel cs x h hw
  obtain ⟨a, ea, ha2⟩ := openU_fieldN (T := 9) (off := 0) (m := 1) Try.underlying33 h hw 0 rfl rfl rfl (by kernel_rfl) (openU_str Try.underlying9)
  obtain ⟨b, eb, hb2⟩ := openU_fieldN (T := 9) (off := 1) (m := 1) Try.underlying33 h hw 1 rfl rfl rfl (by kernel_rfl) (openU_str Try.underlying9)
  have hl := opens_len Try.underlying33 h
  rw [show Try.prog.cellsOf 33 = 2 from by kernel_rfl] at hl
  match cs, hl with
  | [c0, c1], _ =>
    simp at ea eb
    subst ea eb
    exact ⟨(a, b), rfl, by simp only; omega, by simp only; omega⟩

theorem openM31 : OpensM 31 (RSlU 2 RLB) (fun ds => (ds.map fun _ => 1).sum) := openM_slice Try.underlying31 (by kernel_rfl) (by decide) openU33.one
theorem openM25 : OpensM 25 (RSlU 1 (RSlU 2 RLB)) (fun ds => (ds.map fun ls => (ls.map fun _ => 1).sum).sum) := openM_slice Try.underlying25 (by kernel_rfl) (by decide) openM31
theorem ones {α : Type} (l : List α) : (l.map fun _ => 1).sum = l.length := by induction l with | nil => rfl | cons x l ih => simp only [List.map_cons, List.sum_cons, ih, List.length_cons]; omega
theorem rows_sum (sets : List (List LB)) : ∀ m, m ≤ sets.length → (rowsTo sets m).length = ((sets.take m).map fun ls => (ls.map fun _ => 1).sum).sum := by
  intro m
  induction m with
  | zero => intro _; rfl
  | succ m ih =>
    intro hm
    rw [rowsTo_succ (by omega), List.length_append, ih (by omega), List.take_succ_eq_append_getElem (by omega), List.map_append, List.sum_append]
    simp only [rowsOf, List.length_map, List.map_cons, List.map_nil, List.sum_cons, List.sum_nil, ones]; omega
theorem unU {X : List Nat} {w : World} {v : Value} {ds : List (List LB)} (h : RSl 1 (RSlU 2 RLB) X w v ds) : RSl 1 (RSlice 2 RLB) X w v ds ∧ ∀ i (h : i < ds.length), ds[i].length ≤ 2000000 := by
  obtain ⟨a, c, hv, hc, h⟩ := h
  refine ⟨⟨a, c, hv, hc, fun k hk => by obtain ⟨b, o, vs, h1, h2, h3, h4, u, h5, h6, _⟩ := h k hk; exact ⟨b, o, vs, h1, h2, h3, h4, u, h5, h6⟩⟩, fun k hk => ?_⟩
  obtain ⟨b, o, vs, h1, h2, h3, h4, u, h5, h6, h7⟩ := h k hk
  omega
theorem own : ownKnob Try.prog.godebug = none := by kernel_rfl
theorem laidOut : laidOutB Try.prog = true := by kernel_rfl
set_option maxRecDepth 100000 in
theorem contract (H : Type) (enc : TypeId × Value → H) (W : World) (base : Nat) (args : Array Value) (ds gs : List (DataW H)) (before : List MemPlace) (hk : Rows.uptoSmall H (ds ++ gs) = true)
    (hval : ∀ (j : Nat) t v, Try.f4.params[j]? = some t → args[j]? = some v → Value.okWide Try.prog W .any base t v)
    (hW : DataW.Whole enc Try.prog Try.f4.params.toList Rows.indexKnowsSpec.vars false W args.toList ds gs before) :
    Calls Try.prog 4 args W fun e W' => ∃ v, e = .returned v ∧ Rows.indexKnowsSpec.post enc Try.prog Try.f4 false true false false W args v W' := by
  have hW' := hW
  obtain ⟨p, q, hA0, hV, rfl, hfz, hnd⟩ := hW
  have hA : DataW.TrodAll enc Try.prog W 0 (fun _ => true) true Try.f4.params.toList args.toList ds p := hA0
  rw [Try.params4] at hA hval
  obtain ⟨v0, vs0, d0, ds0, p0, q0, hargs, rfl, rfl, h0, r0⟩ := trodAll_cons hA
  obtain ⟨rfl, rfl, rfl⟩ := trodAll_nil r0
  obtain rfl : args = #[v0] := by cases args; simp_all
  obtain ⟨rfl, rfl⟩ := trodVars_none hV
  have k0 := h0
  have lt0 : ∀ x ∈ p0, x.block < W.heap.size := by obtain ⟨m, hm⟩ := k0; exact DataW.trod_lt m _ _ _ hm
  obtain ⟨f0, hf0⟩ := h0
  have hb : Rows.uptoBulk d0 ≤ 1048576 := by
    have h := of_decide_eq_true hk
    simp only [List.append_nil, Rows.uptoBulkAll] at h
    omega
  obtain ⟨sets, ⟨va, hva, hla, hla2⟩, hmu⟩ := openM25 H enc W f0 _ _ hf0 (by simp only; omega)
  obtain ⟨sa, sn, sc, rfl⟩ := okWide_slice Try.underlying25 (hval 0 25 _ rfl rfl)
  have hv2 : [Value.slice sa sn sc] = [va] := hva
  cases hv2
  obtain ⟨hs, hl2⟩ := unU hla
  have hrs := rows_sum sets sets.length (Nat.le_refl _)
  rw [List.take_length] at hrs
  refine (law_knows hs (by omega) hl2 (by simp only at hmu; omega)).mono fun e W' ⟨v, he, hv, bel⟩ => ?_
  subst he hv
  exact ⟨_, rfl, _, _, _, [], _, [], hW', trodAll_mk1 (shut_bool Try.underlying4 _), (trodAll_cons_mk (Below.trod laidOut (by kernel_rfl) (of_decide_eq_true (by kernel_rfl)) k0 bel.below lt0) trodAll_mk0), rfl, bel.below.frame _, fun h => by cases h⟩
set_option maxRecDepth 100000 in
theorem lifted (os : Os) (started : os.Started) (H : Type) (enc : TypeId × Value → H) (F : Stop.Interp) :
    ReturnsInHanded {} Try.checked os 4 .any ((Rows.OpenSpec.upto Rows.indexKnowsSpec).pre6 enc Try.prog Try.f4 Rows.indexKnowsUptoRow.domain false) (((Rows.OpenSpec.upto Rows.indexKnowsSpec).at F).post enc Try.prog Try.f4 false true false false) := by
  refine returnsInHanded_of_cond (C := Try.checked) (s := Rows.OpenSpec.upto Rows.indexKnowsSpec) (k := Rows.uptoSmall) rfl own started (by kernel_rfl) Try.func4
    (OpenSpec.witness (enc := enc) (C := Try.checked) (s := Rows.OpenSpec.upto Rows.indexKnowsSpec) (k := Rows.uptoSmall) rfl false ⟨#[], #[.slice none 0 0], []⟩ 8 (by kernel_rfl) (by kernel_rfl) (by kernel_rfl)
      (x := ([.nil], [], [])) (by kernel_rfl) rfl (by kernel_rfl)) ?_
  intro W base args ds gs before hval hW _ hk _
  exact contract H enc W base args ds gs before hk hval hW
theorem over : Rows.indexKnowsUptoRow.holds Try.pinned (Rows.OpenSpec.upto Rows.indexKnowsSpec) :=
  OpenClaim.holds_of_cond 4 Try.f4 rfl rfl rfl rfl rfl rfl rfl ⟨rfl, rfl, rfl, rfl, rfl⟩ rfl rfl rfl rfl rfl (by kernel_rfl) Try.func4 (by kernel_rfl)
    (of_decide_eq_true (by kernel_rfl)) (by unfold Func.isWrapper; first | (rw [if_pos (by decide +kernel)]; kernel_rfl) | (rw [if_neg (by decide +kernel)]; exact ⟨rfl, rfl⟩))
    (fun os started H enc _ F => lifted os started H enc F)
theorem indexKnows_holds : Rows.IndexKnowsUptoSaid := over
#print axioms indexKnows_holds

end Go.Proofs.Ytebghjbfdpeipaa
