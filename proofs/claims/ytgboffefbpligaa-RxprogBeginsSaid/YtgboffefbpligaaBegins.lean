/- RxprogBegins: all that the program of a tree takes begins with its Prefix; for every tree and text. -/
import Derived.Test.YtgboffefbpligaaRows
import Derived.Test.YtgboffefbpligaaUg
import Derived.Test.YtgboffefbpligaaFw11
namespace Go.Proofs.Ytgboffefbpligaa
open Go.Proofs
open Go.W Go.ChangeShapes Go.WideShapes Go.ChangeAt Go.RowKit
set_option linter.unusedVariables false
set_option linter.unusedSimpArgs false
set_option linter.unusedVariables false



theorem RRx.up {n : Nat} : ∀ {X : List Nat} {w : World} {vs : List Value} {x : Rx}, RRx n X w vs x → RRx (n + 1) X w vs x := by
  induction n with
  | zero => intro X w vs x h; exact h.elim
  | succ n ih =>
    rintro X w vs x ⟨vr, vk, h1, h2, ⟨a, c, hv, hc, h3⟩, h4⟩
    exact ⟨vr, vk, h1, h2, ⟨a, c, hv, hc, fun k hk => by obtain ⟨b, o, us, ha, hb, hl, hcs, hr⟩ := h3 k hk; exact ⟨b, o, us, ha, hb, hl, hcs, ih hr⟩⟩, h4⟩
theorem opens51 : Opens Try.prog 51 RRg := by
  intro H enc w fuel cs x h hw
  obtain ⟨a, ea, _⟩ := opens_fieldN (T := 21) (off := 0) (m := 1) Try.underlying51 h hw 0 rfl rfl rfl (by kernel_rfl) (opens_int Try.underlying21)
  obtain ⟨b, eb, _⟩ := opens_fieldN (T := 21) (off := 1) (m := 1) Try.underlying51 h hw 1 rfl rfl rfl (by kernel_rfl) (opens_int Try.underlying21)
  have hl := opens_len Try.underlying51 h
  rw [show Try.prog.cellsOf 51 = 2 from by kernel_rfl] at hl
  match cs, hl with
  | [c0, c1], _ =>
    simp at ea eb
    subst ea eb
    exact ⟨(a, b), rfl⟩
theorem opens22 : Opens Try.prog 22 (RSlB 2 8 RRg) := opens_slice Try.underlying22 (by kernel_rfl) (by kernel_rfl) (by decide) opens51
theorem openRx : ∀ F, OpensF F Try.prog 25 (RRx F)
  | 0 => fun H enc w fuel cs x hfu h hw => by
    obtain ⟨xs, n, h0, -⟩ := DataW.trod_struct Try.underlying25 h
    omega
  | F + 1 => fun H enc w fuel cs x hfu h hw => by
    have hk : OpensF F Try.prog 23 (RSlB 9 112 (RRx F)) := opensF_slice Try.underlying23 (by kernel_rfl) (by kernel_rfl) (by decide) (openRx F)
    obtain ⟨d0, e0, _⟩ := opens_fieldN (T := 3) (off := 0) (m := 1) Try.underlying25 h hw 0 rfl rfl rfl (by kernel_rfl) (opens_int Try.underlying3)
    obtain ⟨d1, e1, _⟩ := opens_fieldN (T := 21) (off := 1) (m := 1) Try.underlying25 h hw 1 rfl rfl rfl (by kernel_rfl) (opens_int Try.underlying21)
    obtain ⟨d2, v2, e2, h2, hl2⟩ := opens_fieldN (T := 22) (off := 2) (m := 1) Try.underlying25 h hw 2 rfl rfl rfl (by kernel_rfl) opens22
    obtain ⟨d3, e3, _⟩ := opens_fieldN (T := 3) (off := 3) (m := 1) Try.underlying25 h hw 3 rfl rfl rfl (by kernel_rfl) (opens_int Try.underlying3)
    obtain ⟨d4, e4, _⟩ := opens_fieldN (T := 3) (off := 4) (m := 1) Try.underlying25 h hw 4 rfl rfl rfl (by kernel_rfl) (opens_int Try.underlying3)
    obtain ⟨d5, e5⟩ := opens_fieldN (T := 4) (off := 5) (m := 1) Try.underlying25 h hw 5 rfl rfl rfl (by kernel_rfl) (opens_bool Try.underlying4)
    obtain ⟨d6, e6, _⟩ := opens_fieldN (T := 3) (off := 6) (m := 1) Try.underlying25 h hw 6 rfl rfl rfl (by kernel_rfl) (opens_int Try.underlying3)
    obtain ⟨d7, e7, hl7⟩ := opens_fieldN (T := 9) (off := 7) (m := 1) Try.underlying25 h hw 7 rfl rfl rfl (by kernel_rfl) (opens_str Try.underlying9)
    obtain ⟨d8, v8, e8, h8, hl8⟩ := opensF_fieldN (T := 23) (off := 8) (m := 1) Try.underlying25 h hw 8 rfl rfl rfl (by kernel_rfl) hfu hk
    replace e5 : (cs.drop 5).take 1 = [Value.bool d5] := e5
    have hl := opens_len Try.underlying25 h
    rw [show Try.prog.cellsOf 25 = 9 from by kernel_rfl] at hl
    match cs, hl with
    | [c0, c1, c2, c3, c4, c5, c6, c7, c8], _ =>
      simp at e0 e1 e2 e3 e4 e5 e6 e7 e8
      subst e0 e1 e2 e3 e4 e5 e6 e7 e8
      exact ⟨.mk d0 d1 d2 d3 d4 d5 d6 d7 d8, _, _, rfl, h2, h8, by show d2.length ≤ _; omega, hl7, by show d8.length ≤ _; omega⟩
theorem own : ownKnob Try.prog.godebug = none := by kernel_rfl
theorem laidOut : laidOutB Try.prog = true := by kernel_rfl


set_option maxRecDepth 100000 in
theorem lifted (os : Os) (started : os.Started) (H : Type) (enc : TypeId × Value → H) :
    ReturnsInHanded {} Try.checked os 4 .any (Rows.rxprogBeginsSpec.pre6 enc Try.prog Try.f4 Rows.rxprogBeginsRow.domain false) (Rows.rxprogBeginsSpec.post enc Try.prog Try.f4 false true false false) := by
  refine returnsInHanded_of_change_sized (C := Try.checked) own started (by kernel_rfl) Try.func4
    (ChangeSpec.witness6 (enc := enc) (C := Try.checked) false ⟨#[], #[.agg #[.int .i64 0, .int .i32 0, .slice none 0 0, .int .i64 0, .int .i64 0, .bool false, .int .i64 0, .string ByteArray.empty, .slice none 0 0], .string ByteArray.empty], []⟩ 8 (by kernel_rfl) (by kernel_rfl) (by kernel_rfl) (by kernel_rfl)) ?_
  intro W base args ds gs before hval0 hW hcnd hsz0 _
  have hval : ∀ (j : Nat) t v, Try.f4.params[j]? = some t → args[j]? = some v → Value.okWide Try.prog W .any base t v := hval0
  have hsz : (DataW.weightsEach Try.prog (Try.f4.params.toList ++ Rows.rxprogBeginsSpec.plain.varTypes Try.prog) (ds ++ gs)).all (· ≤ reachBytes) = true := hsz0
  have hW' := hW
  obtain ⟨p, q, hA0, hV, rfl, hfz, hnd⟩ := hW
  have hA : DataW.TrodAll enc Try.prog W 0 (fun _ => true) true Try.f4.params.toList args.toList ds p := hA0
  rw [Try.params4] at hA hval hsz
  obtain ⟨v0, vs0, d0, ds0, p0, q0, hargs, rfl, rfl, h0, r0⟩ := trodAll_cons hA
  obtain ⟨v1, vs1, d1, ds1, p1, q1, hargs1, rfl, rfl, h1, r1⟩ := trodAll_cons r0
  obtain ⟨rfl, rfl, rfl⟩ := trodAll_nil r1
  subst hargs1
  obtain rfl : args = #[v0, v1] := by cases args; simp_all
  obtain ⟨rfl, rfl⟩ := trodVars_none hV
  have k0 := h0
  have k1 := h1
  have lt0 : ∀ x ∈ p0, x.block < W.heap.size := by obtain ⟨m, hm⟩ := k0; exact DataW.trod_lt m _ _ _ hm
  have lt1 : ∀ x ∈ p1, x.block < W.heap.size := by obtain ⟨m, hm⟩ := k1; exact DataW.trod_lt m _ _ _ hm
  obtain ⟨fuel, hf⟩ := h0
  obtain ⟨fuel1, hf1⟩ := h1
  have hwt : ∀ n, n ∈ d0.weights Try.prog 25 → n ≤ reachBytes := fun n hn => by
    have := List.all_eq_true.1 hsz n (DataW.weights_mem_each (j := 0) rfl rfl n hn)
    simpa using this
  have hwt1 : ∀ n, n ∈ d1.weights Try.prog 9 → n ≤ reachBytes := fun n hn => by
    have := List.all_eq_true.1 hsz n (DataW.weights_mem_each (j := 1) rfl rfl n hn)
    simpa using this
  obtain ⟨pr, hpr⟩ := openRx fuel H enc W fuel _ _ (Nat.le_refl _) hf hwt
  obtain ⟨s, hse, hss⟩ := opens_str Try.underlying9 H enc W fuel1 _ _ hf1 hwt1
  have hv0 : v0 = .agg v0.cells.toList.toArray := by
    obtain ⟨m, ra, rc, ka, kc, -, hcs, -⟩ := hpr.get
    cases v0 <;> simp [Value.cells] at hcs ⊢
  obtain ⟨s1, rfl⟩ := okWide_string Try.underlying9 (hval 1 9 _ rfl rfl)
  have hse2 : [Value.string s1] = [Value.string s] := hse
  cases hse2
  rw [hv0]
  refine (begins_law hpr hss).mono fun e W' ⟨v, he, hv, bel⟩ => ?_
  subst he hv
  rw [← hv0]
  exact ⟨_, rfl, _, _, _, [], _, [], hW', trodAll_mk1 (shut_bool Try.underlying4 _), (trodAll_cons_mk (Below.trod laidOut (by kernel_rfl) (of_decide_eq_true (by kernel_rfl)) k0 bel.below lt0) (trodAll_cons_mk (Below.trod laidOut (by kernel_rfl) (of_decide_eq_true (by kernel_rfl)) k1 bel.below lt1) trodAll_mk0)), rfl, bel.below.frame _, fun h => by cases h⟩
theorem over : Rows.rxprogBeginsRow.holds Try.pinned (OpenSpec.ofChange Rows.rxprogBeginsSpec) :=
  OpenClaim.holds_of_wide 4 Try.f4 rfl rfl rfl rfl rfl rfl rfl ⟨rfl, rfl, rfl, rfl, rfl⟩ rfl rfl rfl rfl rfl (by kernel_rfl) Try.func4 (by kernel_rfl)
    (of_decide_eq_true (by kernel_rfl)) (by unfold Func.isWrapper; first | (rw [if_pos (by decide +kernel)]; kernel_rfl) | (rw [if_neg (by decide +kernel)]; exact ⟨rfl, rfl⟩))
    (fun os started H enc _ => lifted os started H enc)
theorem rxprogBegins_holds : Rows.RxprogBeginsSaid := over
#print axioms rxprogBegins_holds

end Go.Proofs.Ytgboffefbpligaa
