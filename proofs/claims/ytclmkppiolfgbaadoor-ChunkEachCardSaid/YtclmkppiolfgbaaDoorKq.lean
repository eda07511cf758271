import Derived.Test.YtclmkppiolfgbaaDoorKo
import Derived.Test.YtclmkppiolfgbaaDoorFw3
import Derived.Test.YtclmkppiolfgbaaDoorRows
import Derived.Test.YtclmkppiolfgbaaDoorCards
import Derived.Test.YtclmkppiolfgbaaDoorTie
import Derived.WalkKit
import Derived.ProofKit
import Derived.OpenShut
import Derived.Deep.DeepHandedRow
import Derived.Lib.LaidTab
namespace Go.Proofs.YtclmkppiolfgbaaDoor
open Go.Proofs
open Go.W Go.ChangeShapes Go.WideShapes Go.ChangeAt Go.RowKit
set_option linter.unusedVariables false
set_option linter.unusedSimpArgs false
set_option linter.unusedVariables false



/-! ### What comes in -/
def RF64 : Rel Nat := fun _ _ vs n => vs = [.float .f64 n] ∧ n < 18446744073709551616
theorem trod_float {H : Type} {enc : TypeId × Value → H} {P : Program} {w : World} {base : Nat} {sp : Nat → Bool} {hd : Bool} {fuel : Nat} {t : TypeId} {cs : List Value} {x : DataW H × List MemPlace} (ht : P.underlying t = some (.float .f64)) (h : DataW.trod enc P w base sp hd fuel t cs = some x) : ∃ n, cs = [.float .f64 n] ∧ x = (.lit (.float .f64 n), []) ∧ (Lit.float .f64 n).wf = true := by
  cases fuel with
  | zero => simp [DataW.trod] at h
  | succ n =>
    unfold DataW.trod at h
    rw [ht] at h
    split at h <;> simp_all
theorem opens_f64 {P : Program} {t : TypeId} (ht : P.underlying t = some (.float .f64)) : Opens P t RF64 := by
  intro H enc w fuel cs x h _
  obtain ⟨n, hcs, _, hw⟩ := trod_float ht h
  refine ⟨n, hcs, ?_⟩
  simpa [Lit.wf] using hw
theorem opens_byte {P : Program} {t : TypeId} (ht : P.underlying t = some (.int .u8)) : Opens P t RB := by
  intro H enc w fuel cs x h _
  obtain ⟨n, hcs, _, hw⟩ := DataW.trod_int ht h
  simp [Lit.wf, IntKind.min, IntKind.max, IntKind.signed, IntKind.bits] at hw
  exact ⟨n.toNat, by rw [hcs, show ((n.toNat : Nat) : Int) = n by omega], by omega⟩
def RB2 : Rel Bool := fun _ _ vs b => vs = [.bool b] ∧ True
theorem opens_bool2 {P : Program} {t : TypeId} (ht : P.underlying t = some .bool) : Opens P t RB2 := by
  intro H enc w fuel cs x h _
  obtain ⟨b, hcs, _⟩ := DataW.trod_bool ht h
  exact ⟨b, hcs, trivial⟩
theorem int64_rng {n : Int} (h : IntKind.i64.min ≤ n ∧ n ≤ IntKind.i64.max) : -9223372036854775808 ≤ n ∧ n ≤ 9223372036854775807 := by
  simpa [IntKind.min, IntKind.max, IntKind.signed, IntKind.bits] using h

theorem opens41 : Opens Tryd.prog 41 RSmp := by
  intro H enc w fuel cs x h hw
  obtain ⟨a, ea, ha2⟩ := opens_fieldN (T := 2) (off := 0) (m := 1) Tryd.underlying41 h hw 0 rfl rfl rfl (by kernel_rfl) (opens_int Tryd.underlying2)
  obtain ⟨v, ev, hv2⟩ := opens_fieldN (T := 39) (off := 1) (m := 1) Tryd.underlying41 h hw 1 rfl rfl rfl (by kernel_rfl) (opens_f64 Tryd.underlying39)
  obtain ⟨st, est, _⟩ := opens_fieldN (T := 4) (off := 2) (m := 1) Tryd.underlying41 h hw 2 rfl rfl rfl (by kernel_rfl) (opens_bool2 Tryd.underlying4)
  have hl := opens_len Tryd.underlying41 h
  rw [show Tryd.prog.cellsOf 41 = 3 from by kernel_rfl] at hl
  match cs, hl with
  | [c0, c1, c2], _ =>
    simp at ea ev est
    subst ea ev est
    exact ⟨⟨a, v, st⟩, rfl, int64_rng ha2, hv2⟩

theorem opens22 : Opens Tryd.prog 22 (RSlB 3 24 RSmp) := opens_slice Tryd.underlying22 (by kernel_rfl) (by kernel_rfl) (by decide) opens41
theorem opens24 : Opens Tryd.prog 24 (RSlB 1 1 RB) := opens_slice Tryd.underlying24 (by kernel_rfl) (by kernel_rfl) (by decide) (opens_byte Tryd.underlying5)
set_option maxRecDepth 100000 in
/-- A slice that came in. -/
theorem came {α : Type} {t e : TypeId} {sz bytes : Nat} {R : Rel α} {H : Type} {enc : TypeId × Value → H} {W : World} {base : Nat} {v : Value} {d : DataW H} {p : List MemPlace} (ht : Tryd.prog.underlying t = some (.slice e)) (ho : Opens Tryd.prog t (RSlB sz bytes R)) (hv : Value.okWide Tryd.prog W .any base t v) (h : DataW.Trod enc Tryd.prog W 0 (fun _ => true) true t v d p)
    (hw : ∀ n, n ∈ d.weights Tryd.prog t → n ≤ reachBytes) : ∃ ds, RSl sz R [] W v ds ∧ ds.length * bytes ≤ 140737488351232 := by
  obtain ⟨a, n, c, rfl⟩ := okWide_slice ht hv
  obtain ⟨fuel, hf⟩ := h
  obtain ⟨ds, u, hu, hs, hb⟩ := ho H enc W fuel _ _ hf hw
  simp [Value.cells] at hu
  subst hu
  exact ⟨ds, hs, hb⟩
theorem trod_lt {H : Type} {enc : TypeId × Value → H} {W : World} {t : TypeId} {v : Value} {d : DataW H} {p : List MemPlace} (h : DataW.Trod enc Tryd.prog W 0 (fun _ => true) true t v d p) : ∀ x ∈ p, x.block < W.heap.size := by obtain ⟨m, hm⟩ := h; exact DataW.trod_lt m _ _ _ hm
theorem own : ownKnob Tryd.prog.godebug = none := by kernel_rfl
theorem laidOut : laidOutB Tryd.prog = true := by kernel_rfl
/-! ### The table -/
abbrev laidL : List (String × DataW Unit) := [("math/bits.deBruijn64tab", Rows.laid_math_bits_deBruijn64tab)]
theorem gTab : Tryd.prog.globalNamed "math/bits.deBruijn64tab" = some 1 := by kernel_rfl
theorem gTabType : (Tryd.prog.globals[1]?).map (·.type) = some 107 := by kernel_rfl
theorem table {W : World} (h : laidMetH Tryd.prog laidL W) : Tab W := by
  have h1 : Lib.TabIs Tryd.prog W "math/bits.deBruijn64tab" .u8 (Lib.deBruijn64tab.map fun n : Nat => (n : Int)) := Lib.tabIs_of_head (rest := []) gTab gTabType Tryd.underlying107 Tryd.underlying5 (by kernel_rfl) (by kernel_rfl) h
  intro k hk
  have h2 := h1.cell gTab k (by simpa using (show k < Lib.deBruijn64tab.length from hk))
  rw [h2]
  have hl : k < Lib.deBruijn64tab.length := hk
  simp [List.getD_eq_getElem?_getD, hl]
/-- A world for the witnesses: the table lies where it lies. -/
noncomputable def laidWorld (os : Os) (bl : Array Obj) : World :=
  { World.holding Tryd.prog os ⟨bl, #[], []⟩ with heap := (World.holding Tryd.prog os ⟨bl, #[], []⟩).heap.modify 1 fun
      | .cells _ t frozen => .cells (Lib.deBruijn64tab.map fun n : Nat => Value.int .u8 (n : Int)).toArray t frozen
      | o => o }
theorem looks_off : false = Tryd.pinned.checked.prog.looks [] := by kernel_rfl

end Go.Proofs.YtclmkppiolfgbaaDoor
