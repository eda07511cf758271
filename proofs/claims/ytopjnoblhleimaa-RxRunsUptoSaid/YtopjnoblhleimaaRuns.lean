/- RxRuns (P10.1) holds of every list of plays (a program of any make, sound or not, and a text) whose values and letters are together at most 1048576 (the form Upto): every Run is the reference's, the program that was handed in stays and isn't kept, answers are memory of their own. -/
import Derived.Test.YtopjnoblhleimaaRows
import Derived.Test.YtopjnoblhleimaaRm
import Derived.Test.YtopjnoblhleimaaFw3
import Derived.JoinedCond
namespace Go.Proofs.Ytopjnoblhleimaa
open Go.Proofs
open Go.W Go.ChangeShapes Go.WideShapes Go.ChangeAt Go.RowKit
set_option linter.unusedVariables false
set_option linter.unusedSimpArgs false
set_option linter.unusedVariables false



theorem bulk_part {H : Type} {d : DataW H} {l : List (DataW H)} (h : d ∈ l) : Rows.uptoBulk d ≤ Rows.uptoBulkAll l := by
  induction l with
  | nil => cases h
  | cons x r ih =>
    simp only [Rows.uptoBulkAll]
    rcases List.mem_cons.1 h with e | e
    · subst e; omega
    · have := ih e; omega
theorem bulk_one {H : Type} (d : DataW H) : 1 ≤ Rows.uptoBulk d := by
  cases d with
  | lit l => cases l <;> simp [Rows.uptoBulk]
  | nil => simp [Rows.uptoBulk]
  | ptr d => simp [Rows.uptoBulk]
  | slice elems spare => simp [Rows.uptoBulk]
  | agg parts => simp [Rows.uptoBulk]
  | iface t d => simp [Rows.uptoBulk]
  | map entries => simp [Rows.uptoBulk]
  | held h => simp [Rows.uptoBulk]
theorem bulk_len {H : Type} (l : List (DataW H)) : l.length ≤ Rows.uptoBulkAll l := by
  induction l with
  | nil => simp [Rows.uptoBulkAll]
  | cons x r ih => have := bulk_one x; simp only [Rows.uptoBulkAll, List.length_cons]; omega

/-- What reads as data of a type, small together, stands for a datum. -/
def OpensU {α : Type} (t : TypeId) (R : Rel α) : Prop :=
  ∀ (H : Type) (enc : TypeId × Value → H) (w : World) (fuel : Nat) (cs : List Value) (x : DataW H × List MemPlace), DataW.trod enc Try.prog w 0 (fun _ => true) true fuel t cs = some x → Rows.uptoBulk x.1 ≤ 1048576 → ∃ d, R [] w cs d
theorem openU_int {t : TypeId} {k : IntKind} (ht : Try.prog.underlying t = some (.int k)) : OpensU t (RInt k) := by
  intro H enc w fuel cs x h _
  obtain ⟨n, hcs, _, hw⟩ := DataW.trod_int ht h
  refine ⟨n, hcs, ?_⟩
  simpa [Lit.wf] using hw
def RStrU : Rel ByteArray := fun _ _ vs s => vs = [.string s] ∧ s.size ≤ 1048576
theorem openU_str {t : TypeId} (ht : Try.prog.underlying t = some .string) : OpensU t RStrU := by
  intro H enc w fuel cs x h hw
  obtain ⟨s, hcs, rfl, _⟩ := DataW.trod_string ht h
  refine ⟨s, hcs, ?_⟩
  simp only [Rows.uptoBulk] at hw
  have : s.data.toList.length = s.size := Array.length_toList
  omega
def RSlU {α : Type} (sz : Nat) (R : Rel α) : Rel (List α) := fun X w vs ds => ∃ v, vs = [v] ∧ RSl sz R X w v ds ∧ ds.length ≤ 1048576
theorem openU_slice {α : Type} {t e : TypeId} {R : Rel α} {sz : Nat} (ht : Try.prog.underlying t = some (.slice e)) (hs : Try.prog.cellsOf e = sz) (h0 : 0 < sz) (hR : OpensU e R) : OpensU t (RSlU sz R) := by
  subst hs
  intro H enc w fuel cs x h hw
  rcases DataW.trod_slice ht h with ⟨rfl, rfl⟩ | ⟨a, len, cap, elems, rest, n, rfl, rfl, rfl, _, hle, _, hel, hat, _, _⟩
  · exact ⟨[], .slice none 0 0, rfl, rnil0, Nat.zero_le _⟩
  · simp only [Rows.uptoBulk] at hw
    have hwl : elems.length ≤ 1048576 := by
      have := bulk_len (elems.map (·.1))
      simp at this
      omega
    have hwe : ∀ i (hi : i < elems.length), Rows.uptoBulk (elems[i]).1 ≤ 1048576 := fun i hi => by
      have := bulk_part (d := (elems[i]).1) (l := elems.map (·.1)) (List.mem_map.2 ⟨elems[i], List.getElem_mem hi, rfl⟩)
      omega
    have key : ∀ i (hi : i < len), ∃ b o vs d, a = ⟨b, o, none⟩ ∧ vs.length = Try.prog.cellsOf e ∧ CellsAt w b (o + i * Try.prog.cellsOf e) vs ∧ R [] w vs d := by
      intro i hi
      have h1 := hat i hi
      have hi' : i < elems.length := by omega
      rw [List.getElem?_eq_getElem hi'] at h1
      obtain ⟨vs, hvs, htr⟩ := Option.bind_eq_some_iff.1 h1
      obtain ⟨hl, hc⟩ := cells?_at hvs
      obtain ⟨d, hd⟩ := hR H enc w n vs _ htr (hwe i hi')
      obtain ⟨b, o, spot⟩ := a
      have hspot : spot = none := by
        cases vs with
        | nil => simp at hl; omega
        | cons v0 vs =>
          have h2 := hc 0 v0 (by simp)
          have h3 := World.cell?_spot h2
          by_cases hz : i * Try.prog.cellsOf e = 0
          · rw [hz] at h3; simpa [Addr.add] using h3
          · have hat0 := hat 0 (by omega)
            rw [List.getElem?_eq_getElem (by omega)] at hat0
            obtain ⟨us, hus, _⟩ := Option.bind_eq_some_iff.1 hat0
            obtain ⟨hul, huc⟩ := cells?_at hus
            cases us with
            | nil => simp at hul; omega
            | cons u0 us =>
              have h4 := World.cell?_spot (huc 0 u0 (by simp))
              simpa [Addr.add] using h4
      subst hspot
      refine ⟨b, o, vs, d, rfl, hl, fun j v hv => ?_, hd⟩
      have h2 := hc j v hv
      have hadd : ((⟨b, o, none⟩ : Addr).add (i * Try.prog.cellsOf e)).add j = ⟨b, o + i * Try.prog.cellsOf e + j, none⟩ := by
        unfold Addr.add
        split <;> split <;> simp_all
      rw [hadd] at h2
      exact h2
    have hex : ∀ m, m ≤ len → ∃ ds : List α, ds.length = m ∧ ∀ k (hk : k < ds.length), ∃ b o vs, some a = some ⟨b, o, none⟩ ∧ b ∉ ([] : List Nat) ∧ vs.length = Try.prog.cellsOf e ∧ CellsAt w b (o + k * Try.prog.cellsOf e) vs ∧ R [] w vs ds[k] := by
      intro m
      induction m with
      | zero => exact fun _ => ⟨[], rfl, fun k hk => by simp at hk⟩
      | succ m ih =>
        intro hm
        obtain ⟨ds, hl, hds⟩ := ih (by omega)
        obtain ⟨b, o, vs, d, ha, h1, h2, h3⟩ := key m (by omega)
        refine ⟨ds ++ [d], by simp [hl], fun k hk => ?_⟩
        by_cases hkm : k < ds.length
        · rw [List.getElem_append_left hkm]; exact hds k hkm
        · obtain rfl : k = m := by simp at hk; omega
          rw [List.getElem_append_right (by omega)]
          simp only [hl, Nat.sub_self, List.getElem_cons_zero]
          exact ⟨b, o, vs, by rw [ha], by simp, h1, h2, h3⟩
    obtain ⟨ds, hl, hds⟩ := hex len (Nat.le_refl _)
    exact ⟨ds, .slice (some a) len cap, rfl, ⟨some a, cap, by rw [hl], by omega, hds⟩, by omega⟩
theorem openU_fieldN {α H : Type} {t T off m : Nat} {fs : Array Field} {enc : TypeId × Value → H} {w : World} {fuel : Nat} {cs : List Value} {x : DataW H × List MemPlace} (ht : Try.prog.underlying t = some (.struct fs))
    (h : DataW.trod enc Try.prog w 0 (fun _ => true) true fuel t cs = some x) (hw : Rows.uptoBulk x.1 ≤ 1048576) (i : Nat) {f : Field} (hf : fs[i]? = some f) (hT : f.type = T) (ho : f.offset = off) (hm : Try.prog.cellsOf T = m) {R : Rel α} (hR : OpensU T R) : ∃ d, R [] w ((cs.drop off).take m) d := by
  subst hT ho hm
  obtain ⟨xs, n, rfl, rfl, hl, hlen, hx⟩ := DataW.trod_struct ht h
  have hi : i < xs.length := by rw [hlen]; exact (Array.getElem?_eq_some_iff.1 hf).1
  have h1 := hx i f hf
  rw [List.getElem?_eq_getElem hi] at h1
  refine hR H enc w n _ _ h1 ?_
  simp only [Rows.uptoBulk] at hw
  have := bulk_part (d := (xs[i]).1) (l := xs.map (·.1)) (List.mem_map.2 ⟨xs[i], List.getElem_mem hi, rfl⟩)
  omega

theorem openU66 : OpensU 66 RRange := by
  intro H enc w fuel cs x h hw
  obtain ⟨a, ea, _⟩ := openU_fieldN (T := 21) (off := 0) (m := 1) Try.underlying66 h hw 0 rfl rfl rfl (by kernel_rfl) (openU_int Try.underlying21)
  obtain ⟨b, eb, _⟩ := openU_fieldN (T := 21) (off := 1) (m := 1) Try.underlying66 h hw 1 rfl rfl rfl (by kernel_rfl) (openU_int Try.underlying21)
  have hl := opens_len Try.underlying66 h
  rw [show Try.prog.cellsOf 66 = 2 from by kernel_rfl] at hl
  match cs, hl with
  | [c0, c1], _ =>
    simp at ea eb
    subst ea eb
    exact ⟨(a, b), rfl⟩

theorem openU27 : OpensU 27 (RSlU 2 RRange) := openU_slice Try.underlying27 (by kernel_rfl) (by decide) openU66

theorem openU29 : OpensU 29 RInst := by
  intro H enc w fuel cs x h hw
  obtain ⟨a, ea, ha2⟩ := openU_fieldN (T := 3) (off := 0) (m := 1) Try.underlying29 h hw 0 rfl rfl rfl (by kernel_rfl) (openU_int Try.underlying3)
  obtain ⟨b, eb, hb2⟩ := openU_fieldN (T := 3) (off := 1) (m := 1) Try.underlying29 h hw 1 rfl rfl rfl (by kernel_rfl) (openU_int Try.underlying3)
  obtain ⟨c, ec, hc2⟩ := openU_fieldN (T := 3) (off := 2) (m := 1) Try.underlying29 h hw 2 rfl rfl rfl (by kernel_rfl) (openU_int Try.underlying3)
  obtain ⟨d, ed, hd2⟩ := openU_fieldN (T := 3) (off := 3) (m := 1) Try.underlying29 h hw 3 rfl rfl rfl (by kernel_rfl) (openU_int Try.underlying3)
  obtain ⟨rs, v, ev, hrs, hrl⟩ := openU_fieldN (T := 27) (off := 4) (m := 1) Try.underlying29 h hw 4 rfl rfl rfl (by kernel_rfl) (openU27)
  have hl := opens_len Try.underlying29 h
  rw [show Try.prog.cellsOf 29 = 5 from by kernel_rfl] at hl
  match cs, hl with
  | [c0, c1, c2, c3, c4], _ =>
    simp at ea eb ec ed ev
    subst ea eb ec ed ev
    exact ⟨⟨a, b, c, d, rs⟩, ⟨ha2, hb2, hc2, hd2, by simp only; omega⟩, c4, rfl, hrs⟩

theorem openU22 : OpensU 22 (RSlU 5 RInst) := openU_slice Try.underlying22 (by kernel_rfl) (by decide) openU29
theorem openU23 : OpensU 23 (RSlU 1 RStrU) := openU_slice Try.underlying23 (by kernel_rfl) (by decide) (openU_str Try.underlying9)
theorem unU {X : List Nat} {w : World} {v : Value} {ds : List ByteArray} (h : RSl 1 RStrU X w v ds) : RSl 1 RStr X w v ds := by
  obtain ⟨a, c, hv, hc, h⟩ := h
  exact ⟨a, c, hv, hc, fun k hk => by obtain ⟨b, o, vs, h1, h2, h3, h4, h5⟩ := h k hk; exact ⟨b, o, vs, h1, h2, h3, h4, h5.1⟩⟩

theorem openU25 : OpensU 25 RPrg := by
  intro H enc w fuel cs x h hw
  obtain ⟨is, v, ev, his, hil⟩ := openU_fieldN (T := 22) (off := 0) (m := 1) Try.underlying25 h hw 0 rfl rfl rfl (by kernel_rfl) (openU22)
  obtain ⟨b, eb, hb2⟩ := openU_fieldN (T := 3) (off := 1) (m := 1) Try.underlying25 h hw 1 rfl rfl rfl (by kernel_rfl) (openU_int Try.underlying3)
  obtain ⟨c, ec, hc2⟩ := openU_fieldN (T := 3) (off := 2) (m := 1) Try.underlying25 h hw 2 rfl rfl rfl (by kernel_rfl) (openU_int Try.underlying3)
  obtain ⟨ns, u, eu, hns, hnl⟩ := openU_fieldN (T := 23) (off := 3) (m := 1) Try.underlying25 h hw 3 rfl rfl rfl (by kernel_rfl) (openU23)
  have hl := opens_len Try.underlying25 h
  rw [show Try.prog.cellsOf 25 = 4 from by kernel_rfl] at hl
  match cs, hl with
  | [c0, c1, c2, c3], _ =>
    simp at ev eb ec eu
    subst ev eb ec eu
    exact ⟨⟨is, b, c, ns⟩, ⟨hb2, hc2, by simp only; omega, by simp only; omega⟩, c0, c3, rfl, his, unU hns⟩

theorem openU36 : OpensU 36 RPlay := by
  intro H enc w fuel cs x h hw
  obtain ⟨p, hp⟩ := openU_fieldN (T := 25) (off := 0) (m := 4) Try.underlying36 h hw 0 rfl rfl rfl (by kernel_rfl) openU25
  obtain ⟨s, es, hs⟩ := openU_fieldN (T := 9) (off := 4) (m := 1) Try.underlying36 h hw 1 rfl rfl rfl (by kernel_rfl) (openU_str Try.underlying9)
  have hl := opens_len Try.underlying36 h
  rw [show Try.prog.cellsOf 36 = 5 from by kernel_rfl] at hl
  match cs, hl with
  | [c0, c1, c2, c3, c4], _ =>
    simp at es
    subst es
    exact ⟨⟨p, s⟩, hs, [c0, c1, c2, c3], rfl, hp⟩
theorem openU31 : OpensU 31 (RSlU 5 RPlay) := openU_slice Try.underlying31 (by kernel_rfl) (by decide) openU36
theorem own : ownKnob Try.prog.godebug = none := by kernel_rfl
theorem laidOut : laidOutB Try.prog = true := by kernel_rfl
set_option maxRecDepth 100000 in
theorem contract (H : Type) (enc : TypeId × Value → H) (W : World) (base : Nat) (args : Array Value) (ds gs : List (DataW H)) (before : List MemPlace) (hk : Rows.uptoSmall H (ds ++ gs) = true)
    (hval : ∀ (j : Nat) t v, Try.f4.params[j]? = some t → args[j]? = some v → Value.okWide Try.prog W .any base t v)
    (hW : DataW.Whole enc Try.prog Try.f4.params.toList Rows.rxRunsSpec.vars false W args.toList ds gs before) :
    Calls Try.prog 4 args W fun e W' => ∃ v, e = .returned v ∧ Rows.rxRunsSpec.post enc Try.prog Try.f4 false true false false W args v W' := by
  have hW' := hW
  obtain ⟨p, q, hA0, hV, rfl, hfz, hnd⟩ := hW
  have hA : DataW.TrodAll enc Try.prog W 0 (fun _ => true) true Try.f4.params.toList args.toList ds p := hA0
  rw [Try.params4] at hA hval
  obtain ⟨v0, vs0, d0, ds0, p0, q0, hargs, rfl, rfl, h0, r0⟩ := trodAll_cons hA
  obtain ⟨rfl, rfl, rfl⟩ := trodAll_nil r0
  obtain rfl : args = #[v0] := by cases args; simp_all
  obtain ⟨rfl, rfl⟩ := trodVars_none hV
  have k0 := h0
  have lt0 : ∀ x ∈ p0, x.block < W.heap.size := by obtain ⟨m, hm⟩ := k0; exact DataW.trod_lt m _ _ _ hm
  obtain ⟨fuel, hf⟩ := h0
  have hb : Rows.uptoBulk d0 ≤ 1048576 := by
    have h := of_decide_eq_true hk
    simp only [List.append_nil, Rows.uptoBulkAll] at h
    omega
  obtain ⟨ps, v, hv, hps, hpl⟩ := openU31 H enc W fuel _ _ hf hb
  obtain ⟨sa, sn, sc, rfl⟩ := okWide_slice Try.underlying31 (hval 0 31 _ rfl rfl)
  have hv2 : [Value.slice sa sn sc] = [v] := hv
  cases hv2
  refine (law_ok hps (by omega)).mono fun e W' ⟨v, he, hv, bel⟩ => ?_
  subst he hv
  exact ⟨_, rfl, _, _, _, [], _, [], hW', trodAll_mk1 (shut_bool Try.underlying4 _), (trodAll_cons_mk (Below.trod laidOut (by kernel_rfl) (of_decide_eq_true (by kernel_rfl)) k0 bel.below lt0) trodAll_mk0), rfl, bel.below.frame _, fun h => by cases h⟩
set_option maxRecDepth 100000 in
theorem lifted (os : Os) (started : os.Started) (H : Type) (enc : TypeId × Value → H) (F : Stop.Interp) :
    ReturnsInHanded {} Try.checked os 4 .any ((Rows.OpenSpec.upto Rows.rxRunsSpec).pre6 enc Try.prog Try.f4 Rows.rxRunsUptoRow.domain false) (((Rows.OpenSpec.upto Rows.rxRunsSpec).at F).post enc Try.prog Try.f4 false true false false) := by
  refine returnsInHanded_of_cond (C := Try.checked) (s := Rows.OpenSpec.upto Rows.rxRunsSpec) (k := Rows.uptoSmall) rfl own started (by kernel_rfl) Try.func4
    (OpenSpec.witness (enc := enc) (C := Try.checked) (s := Rows.OpenSpec.upto Rows.rxRunsSpec) (k := Rows.uptoSmall) rfl false ⟨#[], #[.slice none 0 0], []⟩ 8 (by kernel_rfl) (by kernel_rfl) (by kernel_rfl)
      (x := ([.nil], [], [])) (by kernel_rfl) rfl (by kernel_rfl)) ?_
  intro W base args ds gs before hval hW _ hk _
  exact contract H enc W base args ds gs before hk hval hW
theorem over : Rows.rxRunsUptoRow.holds Try.pinned (Rows.OpenSpec.upto Rows.rxRunsSpec) :=
  OpenClaim.holds_of_cond 4 Try.f4 rfl rfl rfl rfl rfl rfl rfl ⟨rfl, rfl, rfl, rfl, rfl⟩ rfl rfl rfl rfl rfl (by kernel_rfl) Try.func4 (by kernel_rfl)
    (of_decide_eq_true (by kernel_rfl)) (by unfold Func.isWrapper; first | (rw [if_pos (by decide +kernel)]; kernel_rfl) | (rw [if_neg (by decide +kernel)]; exact ⟨rfl, rfl⟩))
    (fun os started H enc _ F => lifted os started H enc F)
theorem rxRuns_holds : Rows.RxRunsUptoSaid := over
#print axioms rxRuns_holds

end Go.Proofs.Ytopjnoblhleimaa
