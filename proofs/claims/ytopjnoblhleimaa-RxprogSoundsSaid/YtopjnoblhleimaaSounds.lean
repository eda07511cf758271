import Derived.Test.YtopjnoblhleimaaRows
import Derived.Test.YtopjnoblhleimaaSe
import Derived.Test.YtopjnoblhleimaaFw3
namespace Go.Proofs.Ytopjnoblhleimaa
open Go.Proofs
open Go.W Go.ChangeShapes Go.WideShapes Go.ChangeAt Go.RowKit
set_option linter.unusedVariables false




theorem opens66 : Opens Try.prog 66 RRange := by
  intro H enc w fuel cs x h hw
  obtain ⟨a, ea, _⟩ := opens_fieldN (T := 21) (off := 0) (m := 1) Try.underlying66 h hw 0 rfl rfl rfl (by kernel_rfl) (opens_int Try.underlying21)
  obtain ⟨b, eb, _⟩ := opens_fieldN (T := 21) (off := 1) (m := 1) Try.underlying66 h hw 1 rfl rfl rfl (by kernel_rfl) (opens_int Try.underlying21)
  have hl := opens_len Try.underlying66 h
  rw [show Try.prog.cellsOf 66 = 2 from by kernel_rfl] at hl
  match cs, hl with
  | [c0, c1], _ =>
    simp at ea eb
    subst ea eb
    exact ⟨(a, b), rfl⟩

theorem opens27 : Opens Try.prog 27 (RSlB 2 8 RRange) := opens_slice Try.underlying27 (by kernel_rfl) (by kernel_rfl) (by decide) opens66

theorem opens29 : Opens Try.prog 29 RInst := by
  intro H enc w fuel cs x h hw
  obtain ⟨a, ea, ha2⟩ := opens_fieldN (T := 3) (off := 0) (m := 1) Try.underlying29 h hw 0 rfl rfl rfl (by kernel_rfl) (opens_int Try.underlying3)
  obtain ⟨b, eb, hb2⟩ := opens_fieldN (T := 3) (off := 1) (m := 1) Try.underlying29 h hw 1 rfl rfl rfl (by kernel_rfl) (opens_int Try.underlying3)
  obtain ⟨c, ec, hc2⟩ := opens_fieldN (T := 3) (off := 2) (m := 1) Try.underlying29 h hw 2 rfl rfl rfl (by kernel_rfl) (opens_int Try.underlying3)
  obtain ⟨d, ed, hd2⟩ := opens_fieldN (T := 3) (off := 3) (m := 1) Try.underlying29 h hw 3 rfl rfl rfl (by kernel_rfl) (opens_int Try.underlying3)
  obtain ⟨rs, v, ev, hrs, hrl⟩ := opens_fieldN (T := 27) (off := 4) (m := 1) Try.underlying29 h hw 4 rfl rfl rfl (by kernel_rfl) (opens27)
  have hl := opens_len Try.underlying29 h
  rw [show Try.prog.cellsOf 29 = 5 from by kernel_rfl] at hl
  match cs, hl with
  | [c0, c1, c2, c3, c4], _ =>
    simp at ea eb ec ed ev
    subst ea eb ec ed ev
    exact ⟨⟨a, b, c, d, rs⟩, ⟨ha2, hb2, hc2, hd2, by simp only; omega⟩, c4, rfl, hrs⟩

theorem opens22 : Opens Try.prog 22 (RSlB 5 56 RInst) := opens_slice Try.underlying22 (by kernel_rfl) (by kernel_rfl) (by decide) opens29
theorem opens23 : Opens Try.prog 23 (RSlB 1 16 RStrB) := opens_slice Try.underlying23 (by kernel_rfl) (by kernel_rfl) (by decide) (opens_str Try.underlying9)
theorem unB {X : List Nat} {w : World} {v : Value} {ds : List ByteArray} (h : RSl 1 RStrB X w v ds) : RSl 1 RStr X w v ds := by
  obtain ⟨a, c, hv, hc, h⟩ := h
  exact ⟨a, c, hv, hc, fun k hk => by obtain ⟨b, o, vs, h1, h2, h3, h4, h5⟩ := h k hk; exact ⟨b, o, vs, h1, h2, h3, h4, h5.1⟩⟩

theorem opens25 : Opens Try.prog 25 RPrg := by
  intro H enc w fuel cs x h hw
  obtain ⟨is, v, ev, his, hil⟩ := opens_fieldN (T := 22) (off := 0) (m := 1) Try.underlying25 h hw 0 rfl rfl rfl (by kernel_rfl) (opens22)
  obtain ⟨b, eb, hb2⟩ := opens_fieldN (T := 3) (off := 1) (m := 1) Try.underlying25 h hw 1 rfl rfl rfl (by kernel_rfl) (opens_int Try.underlying3)
  obtain ⟨c, ec, hc2⟩ := opens_fieldN (T := 3) (off := 2) (m := 1) Try.underlying25 h hw 2 rfl rfl rfl (by kernel_rfl) (opens_int Try.underlying3)
  obtain ⟨ns, u, eu, hns, hnl⟩ := opens_fieldN (T := 23) (off := 3) (m := 1) Try.underlying25 h hw 3 rfl rfl rfl (by kernel_rfl) (opens23)
  have hl := opens_len Try.underlying25 h
  rw [show Try.prog.cellsOf 25 = 4 from by kernel_rfl] at hl
  match cs, hl with
  | [c0, c1, c2, c3], _ =>
    simp at ev eb ec eu
    subst ev eb ec eu
    exact ⟨⟨is, b, c, ns⟩, ⟨hb2, hc2, by simp only; omega, by simp only; omega⟩, c0, c3, rfl, his, unB hns⟩

theorem own : ownKnob Try.prog.godebug = none := by kernel_rfl
theorem laidOut : laidOutB Try.prog = true := by kernel_rfl

set_option maxRecDepth 100000 in
theorem lifted (os : Os) (started : os.Started) (H : Type) (enc : TypeId × Value → H) :
    ReturnsInHanded {} Try.checked os 3 .any (Rows.rxprogSoundsSpec.pre6 enc Try.prog Try.f3 Rows.rxprogSoundsRow.domain false) (Rows.rxprogSoundsSpec.post enc Try.prog Try.f3 false true false false) := by
  refine returnsInHanded_of_change_sized (C := Try.checked) own started (by kernel_rfl) Try.func3
    (ChangeSpec.witness6 (enc := enc) (C := Try.checked) false ⟨#[], #[.agg #[.slice none 0 0, .int .i64 0, .int .i64 0, .slice none 0 0]], []⟩ 8 (by kernel_rfl) (by kernel_rfl) (by kernel_rfl) (by kernel_rfl)) ?_
  intro W base args ds gs before hval0 hW hcnd hsz0 _
  have hval : ∀ (j : Nat) t v, Try.f3.params[j]? = some t → args[j]? = some v → Value.okWide Try.prog W .any base t v := hval0
  have hsz : (DataW.weightsEach Try.prog (Try.f3.params.toList ++ Rows.rxprogSoundsSpec.plain.varTypes Try.prog) (ds ++ gs)).all (· ≤ reachBytes) = true := hsz0
  have hW' := hW
  obtain ⟨p, q, hA0, hV, rfl, hfz, hnd⟩ := hW
  have hA : DataW.TrodAll enc Try.prog W 0 (fun _ => true) true Try.f3.params.toList args.toList ds p := hA0
  rw [Try.params3] at hA hval hsz
  obtain ⟨v0, vs0, d0, ds0, p0, q0, hargs, rfl, rfl, h0, r0⟩ := trodAll_cons hA
  obtain ⟨rfl, rfl, rfl⟩ := trodAll_nil r0
  obtain rfl : args = #[v0] := by cases args; simp_all
  obtain ⟨rfl, rfl⟩ := trodVars_none hV
  have k0 := h0
  have lt0 : ∀ x ∈ p0, x.block < W.heap.size := by obtain ⟨m, hm⟩ := k0; exact DataW.trod_lt m _ _ _ hm
  obtain ⟨fuel, hf⟩ := h0
  have hwt : ∀ n, n ∈ d0.weights Try.prog 25 → n ≤ reachBytes := fun n hn => by
    have := List.all_eq_true.1 hsz n (DataW.weights_mem_each (j := 0) rfl rfl n hn)
    simpa using this
  obtain ⟨pr, hpr⟩ := opens25 H enc W fuel _ _ hf hwt
  have hv0 : v0 = .agg v0.cells.toList.toArray := by
    obtain ⟨_, iv, nv, hcs, _⟩ := hpr
    cases v0 <;> simp [Value.cells] at hcs ⊢
  rw [hv0]
  refine (law_ok hpr).mono fun e W' ⟨v, he, hv, bel⟩ => ?_
  subst he hv
  rw [← hv0]
  exact ⟨_, rfl, _, _, _, [], _, [], hW', trodAll_mk1 (shut_bool Try.underlying4 _), (trodAll_cons_mk (Below.trod laidOut (by kernel_rfl) (of_decide_eq_true (by kernel_rfl)) k0 bel.below lt0) trodAll_mk0), rfl, bel.below.frame _, fun h => by cases h⟩

theorem over : Rows.rxprogSoundsRow.holds Try.pinned (OpenSpec.ofChange Rows.rxprogSoundsSpec) :=
  OpenClaim.holds_of_wide 3 Try.f3 rfl rfl rfl rfl rfl rfl rfl ⟨rfl, rfl, rfl, rfl, rfl⟩ rfl rfl rfl rfl rfl (by kernel_rfl) Try.func3 (by kernel_rfl)
    (of_decide_eq_true (by kernel_rfl)) (by unfold Func.isWrapper; first | (rw [if_pos (by decide +kernel)]; kernel_rfl) | (rw [if_neg (by decide +kernel)]; exact ⟨rfl, rfl⟩))
    (fun os started H enc _ => lifted os started H enc)

theorem rxprogSounds_holds : Rows.RxprogSoundsSaid := over
#print axioms rxprogSounds_holds

end Go.Proofs.Ytopjnoblhleimaa
