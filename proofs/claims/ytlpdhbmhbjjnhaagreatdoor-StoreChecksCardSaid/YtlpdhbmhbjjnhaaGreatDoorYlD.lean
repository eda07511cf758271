/- StoreChecks: every Check, of any datasets, is the document's, and Load refuses just so; what is handed in stays as it is. Conditions: none but that the library's tables hold what the text of the program lays. -/
import Derived.Test.YtlpdhbmhbjjnhaaGreatDoorYlC
set_option linter.unusedSectionVars false
set_option linter.unusedSimpArgs false
set_option linter.unusedVariables false
namespace Go.Proofs.YtlpdhbmhbjjnhaaGreatDoor
open Go.ChangeAt Go.ChangeShapes Go.RowKit Go.W Go.WideShapes
def RF64 : Rel Nat := fun _ _ vs n => vs = [.float .f64 n] ∧ n < 18446744073709551616
theorem CJ {H : Type} {enc : TypeId × Value → H} {P : Program} {w : World} {base : Nat} {sp : Nat → Bool} {hd : Bool} {fuel : Nat} {t : TypeId} {cs : List Value} {x : DataW H × List MemPlace} (ht : P.underlying t = some (.float .f64)) (h : DataW.trod enc P w base sp hd fuel t cs = some x) : ∃ n, cs = [.float .f64 n] ∧ x = (.lit (.float .f64 n), []) ∧ (Lit.float .f64 n).wf = true := by
  cases fuel with
  | zero => simp [DataW.trod] at h
  | succ n =>
    unfold DataW.trod at h
    rw [ht] at h
    split at h <;> simp_all
theorem HH {P : Program} {t : TypeId} (ht : P.underlying t = some (.float .f64)) : jB P t RF64 := by
  intro H enc w fuel cs x h _
  obtain ⟨n, hcs, _, hw⟩ := CJ ht h
  refine ⟨n, hcs, ?_⟩
  simpa [Lit.wf] using hw
def RB2 : Rel Bool := fun _ _ vs b => vs = [.bool b] ∧ True
theorem AH {P : Program} {t : TypeId} (ht : P.underlying t = some .bool) : jB P t RB2 := by
  intro H enc w fuel cs x h _
  obtain ⟨b, hcs, _⟩ := DataW.trod_bool ht h
  exact ⟨b, hcs, trivial⟩
theorem HU {n : Int} (h : IntKind.i64.min ≤ n ∧ n ≤ IntKind.i64.max) : -9223372036854775808 ≤ n ∧ n ≤ 9223372036854775807 := by
  simpa [IntKind.min, IntKind.max, IntKind.signed, IntKind.bits] using h
theorem JY : jB Tryz.prog 50 RSmp := by
  intro H enc w fuel cs x h hw
  obtain ⟨a, ea, ha2⟩ := fG (T := 2) (off := 0) (m := 1) Tryz.underlying50 h hw 0 rfl rfl rfl (by kernel_rfl) (HG Tryz.underlying2)
  obtain ⟨v, ev, hv2⟩ := fG (T := 48) (off := 1) (m := 1) Tryz.underlying50 h hw 1 rfl rfl rfl (by kernel_rfl) (HH Tryz.underlying48)
  obtain ⟨st, est, _⟩ := fG (T := 4) (off := 2) (m := 1) Tryz.underlying50 h hw 2 rfl rfl rfl (by kernel_rfl) (AH Tryz.underlying4)
  have hl := mT Tryz.underlying50 h
  rw [show Tryz.prog.cellsOf 50 = 3 from by kernel_rfl] at hl
  match cs, hl with
  | [c0, c1, c2], _ =>
    simp at ea ev est
    subst ea ev est
    exact ⟨⟨a, v, st⟩, rfl, HU ha2, hv2⟩
theorem KA : jB Tryz.prog 58 RLB := by
  intro H enc w fuel cs x h hw
  obtain ⟨a, ea, ha2⟩ := fG (T := 9) (off := 0) (m := 1) Tryz.underlying58 h hw 0 rfl rfl rfl (by kernel_rfl) (vF Tryz.underlying9)
  obtain ⟨v, ev, hv2⟩ := fG (T := 9) (off := 1) (m := 1) Tryz.underlying58 h hw 1 rfl rfl rfl (by kernel_rfl) (vF Tryz.underlying9)
  have hl := mT Tryz.underlying58 h
  rw [show Tryz.prog.cellsOf 58 = 2 from by kernel_rfl] at hl
  match cs, hl with
  | [c0, c1], _ =>
    simp at ea ev
    subst ea ev
    exact ⟨(a, v), rfl, by show a.size ≤ _; omega, by show v.size ≤ _; omega⟩
theorem HK : jB Tryz.prog 42 (IM 2 32 RLB) := kD Tryz.underlying42 (by kernel_rfl) (by kernel_rfl) (by decide) KA
theorem HI : jB Tryz.prog 43 (IM 3 24 RSmp) := kD Tryz.underlying43 (by kernel_rfl) (by kernel_rfl) (by decide) JY
def GD : Rel SD := fun X w vs d => RSer X w vs d ∧ d.1.length ≤ 140737488355328 ∧ d.2.length ≤ 140737488355328
theorem rser_of {X : List Nat} {w : World} {v : Value} {ds : List SD} (h : RSl 2 GD X w v ds) : RSl 2 RSer X w v ds ∧ ∀ s, s ∈ ds → s.1.length ≤ 140737488355328 ∧ s.2.length ≤ 140737488355328 := by
  obtain ⟨a, c, h1, h2, h3⟩ := h
  refine ⟨⟨a, c, h1, h2, fun k hk => ?_⟩, fun s hs => ?_⟩
  · obtain ⟨b, o, vs, e1, e2, e3, e4, e5⟩ := h3 k hk
    exact ⟨b, o, vs, e1, e2, e3, e4, e5.1⟩
  · obtain ⟨k, hk, rfl⟩ := List.getElem_of_mem hs
    obtain ⟨b, o, vs, e1, e2, e3, e4, e5⟩ := h3 k hk
    exact e5.2
theorem JZ : jB Tryz.prog 45 GD := by
  intro H enc w fuel cs x h hw
  obtain ⟨l, v1, e1, h1, b1⟩ := fG (T := 42) (off := 0) (m := 1) Tryz.underlying45 h hw 0 rfl rfl rfl (by kernel_rfl) (HK)
  obtain ⟨m, v2, e2, h2, b2⟩ := fG (T := 43) (off := 1) (m := 1) Tryz.underlying45 h hw 1 rfl rfl rfl (by kernel_rfl) (HI)
  have hl := mT Tryz.underlying45 h
  rw [show Tryz.prog.cellsOf 45 = 2 from by kernel_rfl] at hl
  match cs, hl with
  | [c0, c1], _ =>
    simp at e1 e2
    subst e1 e2
    exact ⟨(l, m), ⟨_, _, rfl, h1, h2⟩, by show l.length ≤ _; omega, by show m.length ≤ _; omega⟩
theorem HJ : jB Tryz.prog 24 (IM 2 48 GD) := kD Tryz.underlying24 (by kernel_rfl) (by kernel_rfl) (by decide) JZ
def RDs : Rel (List SD) := fun X w vs d => ∃ v, vs = [v] ∧ RSl 2 GD X w v d ∧ d.length ≤ 140737488355328
theorem opensDs : jB Tryz.prog 26 RDs := by
  intro H enc w fuel cs x h hw
  obtain ⟨l, v1, e1, h1, b1⟩ := fG (T := 24) (off := 0) (m := 1) Tryz.underlying26 h hw 0 rfl rfl rfl (by kernel_rfl) (HJ)
  have hl := mT Tryz.underlying26 h
  rw [show Tryz.prog.cellsOf 26 = 1 from by kernel_rfl] at hl
  match cs, hl with
  | [c0], _ =>
    simp at e1
    subst e1
    exact ⟨l, _, rfl, h1, by omega⟩
set_option maxRecDepth 100000 in
theorem came {α : Type} {t e : TypeId} {sz bytes : Nat} {R : Rel α} {H : Type} {enc : TypeId × Value → H} {W : World} {base : Nat} {v : Value} {d : DataW H} {p : List MemPlace} (ht : Tryz.prog.underlying t = some (.slice e)) (ho : jB Tryz.prog t (IM sz bytes R)) (hv : Value.okWide Tryz.prog W .any base t v) (h : DataW.Trod enc Tryz.prog W 0 (fun _ => true) true t v d p)
    (hw : ∀ n, n ∈ d.weights Tryz.prog t → n ≤ reachBytes) : ∃ ds, RSl sz R [] W v ds ∧ ds.length * bytes ≤ 140737488351232 := by
  obtain ⟨a, n, c, rfl⟩ := okWide_slice ht hv
  obtain ⟨fuel, hf⟩ := h
  obtain ⟨ds, u, hu, hs, hb⟩ := ho H enc W fuel _ _ hf hw
  simp [Value.cells] at hu
  subst hu
  exact ⟨ds, hs, hb⟩
theorem own : ownKnob Tryz.prog.godebug = none := by kernel_rfl
theorem laidOut : laidOutB Tryz.prog = true := by kernel_rfl
theorem HR : false = Tryz.pinned.checked.prog.looks [] := by kernel_rfl
abbrev laidL : List (String × DataW Unit) := [("math/bits.deBruijn32tab", Rows.laid_math_bits_deBruijn32tab), ("math/bits.deBruijn64tab", Rows.laid_math_bits_deBruijn64tab), ("internal/strconv.uint64pow10", Rows.laid_internal_strconv_uint64pow10)]
theorem table {W : World} (hL : laidMetH Tryz.prog laidL W) : Tab W := by
  have h0 : laidMetH Tryz.prog [("math/bits.deBruijn64tab", Rows.laid_math_bits_deBruijn64tab)] W := by
    have := hL.filter (fun x => x.1 == "math/bits.deBruijn64tab")
    rw [show laidL.filter (fun x => x.1 == "math/bits.deBruijn64tab") = [("math/bits.deBruijn64tab", Rows.laid_math_bits_deBruijn64tab)] from by kernel_rfl] at this
    exact this
  have h1 : Lib.TabIs Tryz.prog W "math/bits.deBruijn64tab" .u8 (Lib.deBruijn64tab.map fun n : Nat => (n : Int)) := Lib.tabIs_of_head (rest := []) (g := nU) (by kernel_rfl) (by kernel_rfl) Tryz.underlying157 Tryz.underlying5 (by kernel_rfl) (by kernel_rfl) h0
  intro k hk
  have h2 := h1.cell (show Tryz.prog.globalNamed "math/bits.deBruijn64tab" = some nU by kernel_rfl) k (by simpa using (show k < Lib.deBruijn64tab.length from hk))
  rw [h2]
  have hl : k < Lib.deBruijn64tab.length := hk
  simp [List.getD_eq_getElem?_getD, hl]
theorem tableP {W : World} (hL : laidMetH Tryz.prog laidL W) : P10 W := by
  have h0 : laidMetH Tryz.prog [("internal/strconv.uint64pow10", Rows.laid_internal_strconv_uint64pow10)] W := by
    have := hL.filter (fun x => x.1 == "internal/strconv.uint64pow10")
    rw [show laidL.filter (fun x => x.1 == "internal/strconv.uint64pow10") = [("internal/strconv.uint64pow10", Rows.laid_internal_strconv_uint64pow10)] from by kernel_rfl] at this
    exact this
  exact Lib.tabIs_of_head (rest := []) (g := gP) (by kernel_rfl) (by kernel_rfl) Tryz.underlying184 Tryz.underlying95 (by kernel_rfl) (by kernel_rfl) h0
def sD (l : List Value) : Obj → Obj
  | .cells _ t frozen => .cells l.toArray t frozen
  | o => o
noncomputable def pW (os : Os) : World :=
  { World.holding Tryz.prog os ⟨#[], #[], []⟩ with heap := (((World.holding Tryz.prog os ⟨#[], #[], []⟩).heap.modify 0 (sD (Lib.deBruijn64tab.map fun n : Nat => Value.int .u8 (n : Int)))).modify 2 (sD (Lib.pow10Tab.map fun n : Int => Value.int .u64 n))).modify 3 (sD (Lib.deBruijn32tab.map fun n : Nat => Value.int .u8 (n : Int))) }
end Go.Proofs.YtlpdhbmhbjjnhaaGreatDoor
namespace Go.Proofs.YtlpdhbmhbjjnhaaGreatDoor
open Go.Lib Go.W
def IsR (n : Int) : Prop := 0 ≤ n ∧ n ≤ 1114111 ∧ (n < 55296 ∨ 57343 < n)
instance (n : Int) : Decidable (IsR n) := by unfold IsR; infer_instance
def jO (m : Nat) : List Nat :=
  if m < 128 then [m] else if m < 2048 then [192 + m / 64, 128 + m % 64] else if m < 65536 then [224 + m / 4096, 128 + m / 64 % 64, 128 + m % 64]
  else [240 + m / 262144, 128 + m / 4096 % 64, 128 + m / 64 % 64, 128 + m % 64]
def fW (n : Int) : List Nat := if IsR n then jO n.toNat else []
theorem LC (n : Int) : ∀ b, b ∈ fW n → b < 256 := by
  unfold fW
  split
  · rename_i h
    unfold IsR at h
    unfold jO
    repeat' split
    all_goals (intro b hb; simp at hb; omega)
  · intro b hb; cases hb
def dL (s : ByteArray) (a w : Nat) : Int :=
  if w = 1 then (sb s a : Int) else if w = 2 then ((sb s a : Int) - 192) * 64 + sb s (a + 1) - 128
  else if w = 3 then (((sb s a : Int) - 224) * 64 + sb s (a + 1) - 128) * 64 + sb s (a + 2) - 128
  else ((((sb s a : Int) - 240) * 64 + sb s (a + 1) - 128) * 64 + sb s (a + 2) - 128) * 64 + sb s (a + 3) - 128
def fP (s : ByteArray) (a w : Nat) : List Nat := (List.range w).map fun k => sb s (a + k)
theorem tH (s : ByteArray) (a w : Nat) : ∀ b, b ∈ fP s a w → b < 256 := by
  intro b hb
  simp only [fP, List.mem_map] at hb
  obtain ⟨k, _, rfl⟩ := hb
  exact fV _ _
theorem nG (s : ByteArray) (a w : Nat) (h : a + w ≤ s.size) : s.extract a (a + w) = bstr (fP s a w) := by
  apply ByteArray.ext
  apply Array.ext
  · have e1 : (s.extract a (a + w)).data.size = w := by have := s.size_extract (b := a) (e := a + w); rw [ByteArray.size] at this; omega
    rw [e1]; simp [bstr, fP]
  · intro i h1 h2
    simp only [bstr, fP, List.map_map, List.getElem_toArray, List.getElem_map, List.getElem_range, Function.comp_def, ByteArray.data_extract, Array.getElem_extract]
    have h3 : a + i < s.size := by simp [bstr, fP] at h2; omega
    apply UInt8.toNat_inj.1
    have := fV s (a + i)
    rw [UInt8.toNat_ofNat_of_lt' (by simpa using this), JK s _ h3]
    rfl
def Hit (s : ByteArray) (a w : Nat) : Prop := fW (dL s a w) = fP s a w
theorem FJ {s : ByteArray} {a w : Nat} (h : Hit s a w) : (fW (dL s a w)).length = w := by rw [h]; simp [fP]
theorem wR {s : ByteArray} {a w : Nat} (h : a + w ≤ s.size) : Hit s a w ↔ s.extract a (a + w) = bstr (fW (dL s a w)) := by
  rw [nG s a w h, oT (tH s a w) (LC _)]
  exact ⟨fun h => h.symm, fun h => h.symm⟩
section
variable {b0 b1 b2 b3 : Nat}
theorem form1 (h0 : b0 < 256) : fW (b0 : Int) = [b0] ↔ b0 < 128 := by
  unfold fW jO
  constructor
  · intro h
    repeat' split at h
    all_goals simp at h
    all_goals omega
  · intro h
    rw [if_pos (by unfold IsR; omega), if_pos (by omega)]; simp
theorem form2 (h0 : b0 < 256) (h1 : b1 < 256) : fW (((b0 : Int) - 192) * 64 + b1 - 128) = [b0, b1] ↔ (b0 / 32 = 6 ∧ b1 / 64 = 2 ∧ 128 ≤ b0 % 32 * 64 + b1 % 64) := by
  unfold fW jO
  constructor
  · intro h
    repeat' split at h
    all_goals simp at h
    all_goals unfold IsR at *
    all_goals omega
  · intro h
    rw [if_pos (by unfold IsR; omega), if_neg (by omega), if_pos (by omega)]; simp; omega
theorem form3 (h0 : b0 < 256) (h1 : b1 < 256) (h2 : b2 < 256) : fW ((((b0 : Int) - 224) * 64 + b1 - 128) * 64 + b2 - 128) = [b0, b1, b2] ↔
    (b0 / 16 = 14 ∧ b1 / 64 = 2 ∧ b2 / 64 = 2 ∧ 2048 ≤ b0 % 16 * 4096 + b1 % 64 * 64 + b2 % 64 ∧ (b0 % 16 * 4096 + b1 % 64 * 64 + b2 % 64 < 55296 ∨ 57343 < b0 % 16 * 4096 + b1 % 64 * 64 + b2 % 64)) := by
  unfold fW jO
  constructor
  · intro h
    repeat' split at h
    all_goals simp at h
    all_goals unfold IsR at *
    all_goals omega
  · intro h
    rw [if_pos (by unfold IsR; omega), if_neg (by omega), if_neg (by omega), if_pos (by omega)]; simp; omega
theorem form4 (h0 : b0 < 256) (h1 : b1 < 256) (h2 : b2 < 256) (h3 : b3 < 256) : fW (((((b0 : Int) - 240) * 64 + b1 - 128) * 64 + b2 - 128) * 64 + b3 - 128) = [b0, b1, b2, b3] ↔
    (b0 / 8 = 30 ∧ b1 / 64 = 2 ∧ b2 / 64 = 2 ∧ b3 / 64 = 2 ∧ 65536 ≤ b0 % 8 * 262144 + b1 % 64 * 4096 + b2 % 64 * 64 + b3 % 64 ∧ b0 % 8 * 262144 + b1 % 64 * 4096 + b2 % 64 * 64 + b3 % 64 ≤ 1114111) := by
  unfold fW jO
  constructor
  · intro h
    repeat' split at h
    all_goals simp at h
    all_goals unfold IsR at *
    all_goals omega
  · intro h
    rw [if_pos (by unfold IsR; omega), if_neg (by omega), if_neg (by omega), if_neg (by omega)]; simp; omega
end
theorem hit1 (s : ByteArray) (a : Nat) : Hit s a 1 ↔ sb s a < 128 := by
  have := form1 (fV s a)
  simpa [Hit, dL, fP] using this
theorem hit2 (s : ByteArray) (a : Nat) : Hit s a 2 ↔ (sb s a / 32 = 6 ∧ sb s (a + 1) / 64 = 2 ∧ 128 ≤ sb s a % 32 * 64 + sb s (a + 1) % 64) := by
  have := form2 (fV s a) (fV s (a + 1))
  simpa [Hit, dL, fP, List.range_succ] using this
theorem hit3 (s : ByteArray) (a : Nat) : Hit s a 3 ↔ (sb s a / 16 = 14 ∧ sb s (a + 1) / 64 = 2 ∧ sb s (a + 2) / 64 = 2 ∧ 2048 ≤ sb s a % 16 * 4096 + sb s (a + 1) % 64 * 64 + sb s (a + 2) % 64 ∧ (sb s a % 16 * 4096 + sb s (a + 1) % 64 * 64 + sb s (a + 2) % 64 < 55296 ∨ 57343 < sb s a % 16 * 4096 + sb s (a + 1) % 64 * 64 + sb s (a + 2) % 64)) := by
  have := form3 (fV s a) (fV s (a + 1)) (fV s (a + 2))
  simpa [Hit, dL, fP, List.range_succ] using this
theorem hit4 (s : ByteArray) (a : Nat) : Hit s a 4 ↔ (sb s a / 8 = 30 ∧ sb s (a + 1) / 64 = 2 ∧ sb s (a + 2) / 64 = 2 ∧ sb s (a + 3) / 64 = 2 ∧ 65536 ≤ sb s a % 8 * 262144 + sb s (a + 1) % 64 * 4096 + sb s (a + 2) % 64 * 64 + sb s (a + 3) % 64 ∧ sb s a % 8 * 262144 + sb s (a + 1) % 64 * 4096 + sb s (a + 2) % 64 * 64 + sb s (a + 3) % 64 ≤ 1114111) := by
  have := form4 (fV s a) (fV s (a + 1)) (fV s (a + 2)) (fV s (a + 3))
  simpa [Hit, dL, fP, List.range_succ] using this
theorem IE (s : ByteArray) (i : Nat) : Utf8.decode s i = decodeN (s.size - i) (sb s i) (sb s (i + 1)) (sb s (i + 2)) (sb s (i + 3)) := decode_at s i
theorem gS (s : ByteArray) (a : Nat) (ha : a < s.size) :
    (∃ w, 1 ≤ w ∧ w ≤ 4 ∧ a + w ≤ s.size ∧ Hit s a w ∧ Utf8.decode s a = ((dL s a w).toNat, w) ∧ 0 ≤ dL s a w ∧ (dL s a w ≤ 1114111) ∧ ∀ w', Hit s a w' → 1 ≤ w' → w' ≤ 4 → w' = w) ∨
    ((∀ w, 1 ≤ w → w ≤ 4 → a + w ≤ s.size → ¬ Hit s a w) ∧ Utf8.decode s a = (65533, 1)) := by
  have h0 := fV s a
  have h1 := fV s (a + 1)
  have h2 := fV s (a + 2)
  have h3 := fV s (a + 3)
  have k1 := hit1 s a
  have k2 := hit2 s a
  have k3 := hit3 s a
  have k4 := hit4 s a
  have all : ∀ {p : Nat → Prop}, p 1 → p 2 → p 3 → p 4 → ∀ w, 1 ≤ w → w ≤ 4 → p w := by
    intro p p1 p2 p3 p4 w hw hw'
    have : w = 1 ∨ w = 2 ∨ w = 3 ∨ w = 4 := by omega
    rcases this with rfl | rfl | rfl | rfl <;> assumption
  rw [IE]
  unfold decodeN
  split
  · rename_i c
    exact .inl ⟨1, by omega, by omega, by omega, k1.2 c, by simp [dL], by simp [dL], by simp [dL]; omega, fun w' hw h1 h4 => by revert hw; revert w'; exact fun w' h1 h4 => all (p := fun w' => Hit s a w' → w' = 1) (fun _ => rfl) (fun h => by have := k2.1 h; omega) (fun h => by have := k3.1 h; omega) (fun h => by have := k4.1 h; omega) w' h1 h4⟩
  · rename_i c1
    split
    · rename_i c2
      split
      · rename_i c3
        exact .inl ⟨2, by omega, by omega, by omega, k2.2 ⟨c2.1, c2.2.2, c3⟩, by simp [dL]; omega, by simp [dL]; omega, by simp [dL]; omega, fun w' hw h1 h4 => by revert hw; revert w'; exact fun w' h1 h4 => all (p := fun w' => Hit s a w' → w' = 2) (fun h => by have := k1.1 h; omega) (fun h => rfl) (fun h => by have := k3.1 h; omega) (fun h => by have := k4.1 h; omega) w' h1 h4⟩
      · rename_i c3
        exact .inr ⟨all (p := fun w => a + w ≤ s.size → ¬ Hit s a w) (fun _ h => by have := k1.1 h; omega) (fun _ h => by have := k2.1 h; omega) (fun _ h => by have := k3.1 h; omega) (fun _ h => by have := k4.1 h; omega), rfl⟩
    · rename_i c2
      split
      · rename_i c4
        split
        · rename_i c3
          exact .inl ⟨3, by omega, by omega, by omega, k3.2 (by omega), by simp [dL]; omega, by simp [dL]; omega, by simp [dL]; omega, fun w' hw h1 h4 => by revert hw; revert w'; exact fun w' h1 h4 => all (p := fun w' => Hit s a w' → w' = 3) (fun h => by have := k1.1 h; omega) (fun h => by have := k2.1 h; omega) (fun h => rfl) (fun h => by have := k4.1 h; omega) w' h1 h4⟩
        · rename_i c3
          exact .inr ⟨all (p := fun w => a + w ≤ s.size → ¬ Hit s a w) (fun _ h => by have := k1.1 h; omega) (fun _ h => by have := k2.1 h; omega) (fun _ h => by have := k3.1 h; omega) (fun _ h => by have := k4.1 h; omega), rfl⟩
      · rename_i c4
        split
        · rename_i c5
          split
          · rename_i c3
            exact .inl ⟨4, by omega, by omega, by omega, k4.2 (by omega), by simp [dL]; omega, by simp [dL]; omega, by simp [dL]; omega, fun w' hw h1 h4 => by revert hw; revert w'; exact fun w' h1 h4 => all (p := fun w' => Hit s a w' → w' = 4) (fun h => by have := k1.1 h; omega) (fun h => by have := k2.1 h; omega) (fun h => by have := k3.1 h; omega) (fun h => rfl) w' h1 h4⟩
          · rename_i c3
            exact .inr ⟨all (p := fun w => a + w ≤ s.size → ¬ Hit s a w) (fun _ h => by have := k1.1 h; omega) (fun _ h => by have := k2.1 h; omega) (fun _ h => by have := k3.1 h; omega) (fun _ h => by have := k4.1 h; omega), rfl⟩
        · rename_i c5
          exact .inr ⟨all (p := fun w => a + w ≤ s.size → ¬ Hit s a w) (fun _ h => by have := k1.1 h; omega) (fun _ h => by have := k2.1 h; omega) (fun _ h => by have := k3.1 h; omega) (fun _ h => by have := k4.1 h; omega), rfl⟩
theorem sT {s : ByteArray} {a w : Nat} (hw : 1 ≤ w) (hw4 : w ≤ 4) (hs : a + w ≤ s.size) (h : Hit s a w) : nD s a = (dL s a w, w) ∧ 0 ≤ dL s a w ∧ dL s a w ≤ 1114111 := by
  rcases gS s a (by omega) with ⟨w', h1, h2, h3, h4, h5, h6, h7, h8⟩ | ⟨h1, _⟩
  · have : w = w' := h8 w h hw hw4
    subst this
    have hne : ¬ (((dL s a w).toNat, w).1 = 65533 ∧ ((dL s a w).toNat, w).2 = 1) := fun ⟨e1, e2⟩ => by
      simp only at e1 e2
      subst e2
      have := (hit1 s a).1 h
      simp [dL] at e1
      omega
    refine ⟨?_, h6, h7⟩
    unfold nD
    rw [h5, if_pos ⟨by omega, hne⟩]
    simp only [Int.toNat_of_nonneg h6]
  · exact absurd h (h1 w hw hw4 hs)
theorem mU {s : ByteArray} {a : Nat} (h : ∀ w, 1 ≤ w → w ≤ 4 → a + w ≤ s.size → ¬ Hit s a w) : nD s a = (-1, 0) := by
  unfold nD
  by_cases ha : a < s.size
  · rcases gS s a ha with ⟨w', h1, h2, h3, h4, _⟩ | ⟨_, h2⟩
    · exact absurd h4 (h w' h1 h2 h3)
    · rw [h2]; simp
  · rw [if_neg (by omega)]
theorem KE {s : ByteArray} {a : Nat} (h : s.size ≤ a) : nD s a = (-1, 0) := mU fun w h1 h2 h3 => by omega
theorem BC (s : ByteArray) (a : Nat) (h : (Utf8.decode s a).1 = 65533) (ha : a < s.size) : (Utf8.decode s a).2 = 1 ∨ (Utf8.decode s a).2 = 3 := by
  rcases gS s a ha with ⟨w, h1, h2, h3, h4, h5, h6, h7, _⟩ | ⟨_, h2⟩
  · rw [h5] at h ⊢
    simp only at h ⊢
    have hh := h4
    unfold Hit at hh
    have e : dL s a w = 65533 := by omega
    rw [e] at hh
    have := congrArg List.length hh
    simp [fP, fW, IsR, jO] at this
    omega
  · rw [h2]; exact .inl rfl
theorem qZ (s : ByteArray) (a : Nat) (h : (Utf8.decode s a).1 = 65533) (ha : a < s.size) : (Utf8.decode s a).2 = 3 ↔ (a + 3 ≤ s.size ∧ s.extract a (a + 3) = bstr [239, 191, 189]) := by
  constructor
  · intro h3
    rcases gS s a ha with ⟨w, h1, h2, hs, h4, h5, h6, h7, _⟩ | ⟨_, h2⟩
    · rw [h5] at h h3
      simp only at h h3
      subst h3
      refine ⟨hs, ?_⟩
      rw [(wR hs).1 h4]
      have e : dL s a 3 = 65533 := by omega
      rw [e]; rfl
    · rw [h2] at h3; cases h3
  · rintro ⟨hs, he⟩
    have hg : fP s a 3 = [239, 191, 189] := by
      rw [nG s a 3 hs] at he
      exact (oT (tH s a 3) (by intro b hb; simp at hb; omega)).1 he
    simp [fP, List.range_succ] at hg
    have k3 := (hit3 s a).2 (by omega)
    have := (sT (by omega) (by omega) hs k3)
    rcases gS s a ha with ⟨w, h1, h2, hs, h4, h5, h6, h7, h8⟩ | ⟨hn, h2⟩
    · rw [h5]; exact (h8 3 k3 (by omega) (by omega)).symm
    · exact absurd k3 (hn 3 (by omega) (by omega) hs)
end Go.Proofs.YtlpdhbmhbjjnhaaGreatDoor
namespace Go.Proofs.YtlpdhbmhbjjnhaaGreatDoor
open Go.W
attribute [local irreducible] Decidable.decide
theorem uD : dC Tryz.prog 112 := ⟨_, Tryz.func112, by kernel_rfl, by kernel_rfl⟩
theorem uC : dC Tryz.prog 113 := ⟨_, Tryz.func113, by kernel_rfl, by kernel_rfl⟩
theorem uB : dC Tryz.prog 125 := ⟨_, Tryz.func125, by kernel_rfl, by kernel_rfl⟩
theorem iQ : iF Tryz.prog 83 = some (5, 1) := by kernel_rfl
theorem oH {w : World} {e : TypeId} {a : Option Addr} {n c : Nat} {ds : List Nat} {ob : Option Nat} (h : OwnS w e 1 a n c (ds.map fun d : Nat => Value.int .u8 (d : Int)) ob) (hl : ds.length = n) (hb : ∀ b, b ∈ ds → b < 256) : RSl 1 RB [] w (.slice a n c) ds := by
  have e1 : (ds.map fun d : Nat => [Value.int .u8 (d : Int)]).flatten = ds.map fun d : Nat => Value.int .u8 (d : Int) := by clear h hl hb; induction ds with | nil => rfl | cons d ds ih => simpa using ih
  rw [← e1] at h
  exact RSl.ofOwn h ⟨by simp, fun k h1 h2 => by simp only [List.getElem_map]; exact ⟨rfl, rfl, hb _ (List.getElem_mem _)⟩⟩ hl (fun _ _ h => by cases h)
theorem AR (s : ByteArray) (a k : Nat) : -100000000 ≤ dL s a k ∧ dL s a k ≤ 100000000 := by
  have b0 := fV s a
  have b1 := fV s (a + 1)
  have b2 := fV s (a + 2)
  have b3 := fV s (a + 3)
  unfold dL
  repeat' split
  all_goals omega
theorem vW (l : List Nat) : (bstr l).size = l.length := by simp [bstr, ByteArray.size]
theorem isr_iff {n : Int} : IsR n ↔ (0 ≤ n ∧ n ≤ 1114111 ∧ (n < 55296 ∨ 57343 < n)) := Iff.rfl
theorem HT {w : World} (n : Int) : Calls Tryz.prog 125 #[.int .i64 n] w (Ret fun v w' => v = .bool (decide (IsR n)) ∧ Evo [] w w') := by
  refine aU (N := 17) Tryz.func125 rfl rfl rfl ?_; refine csr (wan (csr (aD (aC (fF rfl rfl) ?_)))); refine aD (bQ (t := 5) rfl (fun A => ?_) (fun A => ?_))
  ·refine aW (aD (aW (aC (eP rfl rfl) ?_))); refine cF (aD (bQ (t := 9) rfl (fun D => ?_) (fun D => ?_)))
   ·refine aW (aD (aW (aC (cE rfl rfl) ?_))); refine aW (aD (bQ (t := 12) rfl (fun y => ?_) (fun y => ?_)))
    ·refine bB (bB (aW (cF (cF (wan (aS (br1 ?_)))))))
     exact ⟨congrArg Value.bool (by first | exact decide_eq_decide.2 (by unfold IsR; omega) | exact (decide_eq_true (by unfold IsR; omega)).symm | exact (decide_eq_false (by unfold IsR; omega)).symm), (Evo.refl [] w)⟩
    refine aW (aD (aW (aC (eQ rfl rfl) ?_))); refine aW (bY (cF (wan (aS (br1 ?_)))))
    exact ⟨congrArg Value.bool (by first | exact decide_eq_decide.2 (by unfold IsR; omega) | exact (decide_eq_true (by unfold IsR; omega)).symm | exact (decide_eq_false (by unfold IsR; omega)).symm), (Evo.refl [] w)⟩
   refine bB (bB (bB (dY ?_))); refine dY ?_; refine bB (bY (wan (aS (br1 ?_))))
   exact ⟨congrArg Value.bool (by first | exact decide_eq_decide.2 (by unfold IsR; omega) | exact (decide_eq_true (by unfold IsR; omega)).symm | exact (decide_eq_false (by unfold IsR; omega)).symm), (Evo.refl [] w)⟩
  refine bB (bB (bY (aD (bB (bB (bB (dY ?_))))))); refine dY ?_; refine bB (bY (wan (aS (br1 ?_))))
  exact ⟨congrArg Value.bool (by first | exact decide_eq_decide.2 (by unfold IsR; omega) | exact (decide_eq_true (by unfold IsR; omega)).symm | exact (decide_eq_false (by unfold IsR; omega)).symm), (Evo.refl [] w)⟩
theorem form_ok {w : World} (n : Int) (hn : -9223372036854775808 ≤ n) (a4 : n ≤ 9223372036854775807) : Calls Tryz.prog 113 #[.int .i64 n] w (Ret fun v w' => v = .string (bstr (fW n)) ∧ Evo [] w w') := by
  refine aU (N := 60) Tryz.func113 rfl rfl rfl ?_; refine csr (wan (aL (csr (aD (aG (vs := [_]) uB rfl (HT _) rfl ?_))))); rintro _ w1 ⟨rfl, W⟩; have y := (Evo.refl [] w).then W; refine aC (lK rfl) ?_; refine wnn (bP rfl (fun A => ?_) (fun A => ?_))
  ·refine csr (wan (aS (aI (br1 ?_))))
   exact ⟨by rw [show fW n = [] from if_neg (by simpa using A)]; rfl, y⟩
  have hir : IsR n := by simpa using A
  have hir2 := isr_iff.1 hir; obtain ⟨m, rfl⟩ := Int.eq_ofNat_of_zero_le hir2.1; refine aR (aB (csr (aD ?_))); refine aC (oN (m := m) (n := 64) rfl rfl (by omega) (by omega) (by omega)) ?_; refine aC (aT rfl rfl (by omega) (by omega)) ?_
  refine aC (iB (128 + m % 64) rfl Tryz.underlying3 Tryz.underlying5 (by omega) (by simp [IntKind.max, IntKind.bits, IntKind.signed] <;> omega)) ?_
  refine wan (csr (aD ?_))
  refine aC (kE (m := m) (n := 64) rfl rfl (by omega) (by omega) (by omega) (by simp [IntKind.max, IntKind.signed, IntKind.bits]; omega)) ?_
  refine aC (oN (m := m / 64) (n := 64) rfl rfl (by omega) (by omega) (by omega)) ?_; refine aC (aT rfl rfl (by omega) (by omega)) ?_
  refine aC (iB (128 + m / 64 % 64) rfl Tryz.underlying3 Tryz.underlying5 (by omega) (by simp [IntKind.max, IntKind.bits, IntKind.signed] <;> omega)) ?_
  refine wan (csr (aD ?_))
  refine aC (kE (m := m) (n := 4096) rfl rfl (by omega) (by omega) (by omega) (by simp [IntKind.max, IntKind.signed, IntKind.bits]; omega)) ?_
  refine aC (oN (m := m / 4096) (n := 64) rfl rfl (by omega) (by omega) (by omega)) ?_; refine aC (aT rfl rfl (by omega) (by omega)) ?_
  refine aC (iB (128 + m / 4096 % 64) rfl Tryz.underlying3 Tryz.underlying5 (by omega) (by simp [IntKind.max, IntKind.bits, IntKind.signed] <;> omega)) ?_
  refine wan (aL (aZ (csr (aD (aC (cE rfl rfl) ?_))))); refine wan (bP rfl (fun D => ?_) (fun D => ?_))
  ·refine csr (aD ?_)
   refine aC (iB (m) rfl Tryz.underlying3 Tryz.underlying5 (by omega) (by simp [IntKind.max, IntKind.bits, IntKind.signed] <;> omega)) ?_
   refine cK (vs := [_]) rfl iQ rfl rfl rfl rfl fun b4 w5 Y a5 a0 => ?_
   have E := oH (ds := [m]) Y rfl (by intro b hb; simp only [List.mem_cons, List.not_mem_nil, or_false] at hb; omega)
   refine aC (mZ rfl E Tryz.underlying83 Tryz.underlying5 Tryz.underlying9) ?_; refine wan (aS (bA (aI (br1 ?_)))); refine ⟨?_, (y.then a0)⟩
   rw [show fW (m : Int) = jO m from by rw [fW, if_pos hir]; rfl]
   unfold jO
   repeat' split
   all_goals first | rfl | omega
  refine csr (aD (aC (cE rfl rfl) ?_)); refine wan (bP rfl (fun F => ?_) (fun F => ?_))
  ·refine csr (aD ?_)
   refine aC (kE (m := m) (n := 64) rfl rfl (by omega) (by omega) (by omega) (by simp [IntKind.max, IntKind.signed, IntKind.bits]; omega)) ?_
   refine aC (aT rfl rfl (by omega) (by omega)) ?_
   refine aC (iB (192 + m / 64) rfl Tryz.underlying3 Tryz.underlying5 (by omega) (by simp [IntKind.max, IntKind.bits, IntKind.signed] <;> omega)) ?_
   refine aD (cK (vs := [_, _]) rfl iQ rfl rfl rfl rfl fun a6 a7 G a1 H => ?_)
   have I := oH (ds := [192 + m / 64, 128 + m % 64]) G rfl (by intro b hb; simp only [List.mem_cons, List.not_mem_nil, or_false] at hb; omega)
   refine aC (mZ rfl I Tryz.underlying83 Tryz.underlying5 Tryz.underlying9) ?_; refine wan (aS (bA (aI (br1 ?_)))); refine ⟨?_, (y.then H)⟩
   rw [show fW (m : Int) = jO m from by rw [fW, if_pos hir]; rfl]
   unfold jO
   repeat' split
   all_goals first | rfl | omega
  refine csr (aD (aC (cE rfl rfl) ?_)); refine wan (bP rfl (fun J => ?_) (fun J => ?_))
  ·refine csr (aD ?_)
   refine aC (kE (m := m) (n := 4096) rfl rfl (by omega) (by omega) (by omega) (by simp [IntKind.max, IntKind.signed, IntKind.bits]; omega)) ?_
   refine aC (aT rfl rfl (by omega) (by omega)) ?_
   refine aC (iB (224 + m / 4096) rfl Tryz.underlying3 Tryz.underlying5 (by omega) (by simp [IntKind.max, IntKind.bits, IntKind.signed] <;> omega)) ?_
   refine aD (aD (cK (vs := [_, _, _]) rfl iQ rfl rfl rfl rfl fun a8 a9 K a2 L => ?_))
   have M := oH (ds := [224 + m / 4096, 128 + m / 64 % 64, 128 + m % 64]) K rfl (by intro b hb; simp only [List.mem_cons, List.not_mem_nil, or_false] at hb; omega)
   refine aC (mZ rfl M Tryz.underlying83 Tryz.underlying5 Tryz.underlying9) ?_; refine wan (aS (bA (aI (br1 ?_)))); refine ⟨?_, (y.then L)⟩
   rw [show fW (m : Int) = jO m from by rw [fW, if_pos hir]; rfl]
   unfold jO
   repeat' split
   all_goals first | rfl | omega
  refine aR (bC (aB (csr (aD ?_))))
  refine aC (kE (m := m) (n := 262144) rfl rfl (by omega) (by omega) (by omega) (by simp [IntKind.max, IntKind.signed, IntKind.bits]; omega)) ?_
  refine aC (aT rfl rfl (by omega) (by omega)) ?_
  refine aC (iB (240 + m / 262144) rfl Tryz.underlying3 Tryz.underlying5 (by omega) (by simp [IntKind.max, IntKind.bits, IntKind.signed] <;> omega)) ?_
  refine aD (aD (aD (cK (vs := [_, _, _, _]) rfl iQ rfl rfl rfl rfl fun b5 b6 O a3 U => ?_)))
  have V := oH (ds := [240 + m / 262144, 128 + m / 4096 % 64, 128 + m / 64 % 64, 128 + m % 64]) O rfl (by intro b hb; simp only [List.mem_cons, List.not_mem_nil, or_false] at hb; omega)
  refine aC (mZ rfl V Tryz.underlying83 Tryz.underlying5 Tryz.underlying9) ?_; refine wan (aS (br1 ?_)); refine ⟨?_, (y.then U)⟩
  rw [show fW (m : Int) = jO m from by rw [fW, if_pos hir]; rfl]
  unfold jO
  repeat' split
  all_goals first | rfl | omega
theorem KS {w : World} (s : ByteArray) (a k : Nat) (hk : 1 ≤ k) (hk4 : k ≤ 4) (hs : a + k ≤ s.size) (hl : s.size ≤ 140737488355328) : Calls Tryz.prog 112 #[.string s, .int .i64 (a : Nat), .int .i64 (k : Nat)] w (Ret fun v w' => v = .int .i64 (dL s a k) ∧ Evo [] w w') := by
  have b0 := fV s a; have b1 := fV s (a + 1); have b2 := fV s (a + 2); have b3 := fV s (a + 3); refine aU (N := 43) Tryz.func112 rfl rfl rfl ?_; refine csr (wan (csr (aD (aD ?_)))); refine aC (gG (n := a) rfl rfl Tryz.underlying9 rfl (by omega)) ?_
  refine aC (iB (sb s a) rfl Tryz.underlying5 Tryz.underlying3 (by omega) (by simp [IntKind.max, IntKind.bits, IntKind.signed] <;> omega)) ?_
  refine wan (aL (csr (aD (wel ?_)))); refine wnn (bP rfl (fun A => ?_) (fun A => ?_))
  ·refine csr (aD (wan (aS (aI (br1 ?_)))))
   exact ⟨by unfold dL; rw [if_pos (by omega)], (Evo.refl [] w)⟩
  refine aR (aB (csr (aD ?_))); refine aC (aX rfl rfl (by omega) (by omega)) ?_; refine wan (aL (eY (α := Int) (fun x => [(8, .int .i64 x)]) [(0, _), (1, _), (2, _), (6, _), (7, _)] (fun x wr => Evo [] w wr ∧ (x = (sb s a : Int) - (if k = 3 then 224 else 192))) ⟨rfl, rfl, rfl, rfl, rfl, trivial⟩ ?_ ?_))
  ·refine csr (aD (wel ?_)); refine wnn (bP rfl (fun D => ?_) (fun D => ?_))
   ·refine aQ (aD ?_); refine aC (aX rfl rfl (by omega) (by omega)) ?_; refine cL (aE (aM ?_)); refine ⟨_, ⟨rfl, trivial⟩, ⟨rfl, rfl, rfl, rfl, rfl, trivial⟩, (Evo.refl [] w), ?_⟩
    split <;> omega
   refine aR (aM ?_); refine ⟨_, ⟨rfl, trivial⟩, ⟨rfl, rfl, rfl, rfl, rfl, trivial⟩, (Evo.refl [] w), ?_⟩
   split <;> omega
  rintro x1 w1 ⟨G, hx1⟩; refine aB ?_; show CW _ _ _ _ [(8, _), (0, _), (1, _), (2, _), (6, _), (7, _)] _; refine aL (eY (α := Int) (fun x => [(8, .int .i64 x)]) [(0, _), (1, _), (2, _), (6, _)] (fun x wr => Evo [] w1 wr ∧ (x = (sb s a : Int) - (if k = 4 then 240 else if k = 3 then 224 else 192))) ⟨rfl, rfl, rfl, rfl, trivial⟩ ?_ ?_)
  ·refine csr (aD (wel ?_)); refine wnn (bP rfl (fun E => ?_) (fun E => ?_))
   ·refine aQ (aD ?_); refine aC (aX rfl rfl (by omega) (by omega)) ?_; refine cL (aE (aM ?_)); refine ⟨_, ⟨rfl, trivial⟩, ⟨rfl, rfl, rfl, rfl, trivial⟩, (Evo.refl [] w1), ?_⟩
    repeat' split
    all_goals (try rw [hx1])
    all_goals (try split)
    all_goals omega
   refine aR (aM ?_); refine ⟨_, ⟨rfl, trivial⟩, ⟨rfl, rfl, rfl, rfl, trivial⟩, (Evo.refl [] w1), ?_⟩
   repeat' split
   all_goals (try rw [hx1])
   all_goals (try split)
   all_goals omega
  rintro x2 w4 ⟨H, hx2⟩; refine aB ?_; show CW _ _ _ _ [(8, _), (0, _), (1, _), (2, _), (6, _)] _; refine aL (csr (wan (aZ ?_)))
  refine cH (α := Nat × Int) ((1, x2)) (fun x => [(9, .int .i64 (x.1 : Nat)), (8, .int .i64 x.2)]) [(0, _), (1, _), (2, _), (6, _)] (fun x wr => Evo [] w4 wr ∧ (1 ≤ x.1 ∧ x.1 ≤ k ∧ (x.1 = 1 → x.2 = x2) ∧ (x.1 = 2 → x.2 = x2 * 64 + sb s (a + 1) - 128) ∧ (x.1 = 3 → x.2 = (x2 * 64 + sb s (a + 1) - 128) * 64 + sb s (a + 2) - 128) ∧ (x.1 = 4 → x.2 = ((x2 * 64 + sb s (a + 1) - 128) * 64 + sb s (a + 2) - 128) * 64 + sb s (a + 3) - 128))) (fun x => 4 - x.1) ⟨rfl, rfl, trivial⟩ ⟨rfl, rfl, rfl, rfl, trivial⟩ ⟨Evo.refl _ _, ⟨by simp, by simp; omega, by simp, by simp, by simp, by simp⟩⟩ ?_
  rintro ⟨j, g⟩ wr7 ⟨y, ⟨h1, h2, g1, g2, g3, g4⟩⟩; show CW _ _ _ _ [(9, .int .i64 (j : Nat)), (8, .int .i64 g), (0, _), (1, _), (2, _), (6, _)] _
  try dsimp only at h1 h2 g1 g2 g3 g4
  refine aL (csr (aD (aD (aC (cE rfl rfl) ?_)))); refine wnn (bP rfl (fun F => ?_) (fun F => ?_))
  ·refine aR (aB (aL (aZ (aQ ?_))))
   have hj' : j < 4 := by omega
   have bj := fV s (a + j)
   have hxb : -240 ≤ x2 ∧ x2 ≤ 255 := by rw [hx2]; (repeat' split) <;> omega
   have hj3 : j = 1 ∨ j = 2 ∨ j = 3 := by omega
   have hgb : -1100000 ≤ g ∧ g ≤ 1100000 := by omega
   refine aD ?_; refine aC (nV rfl rfl (by omega) (by omega)) ?_; refine aD (aD (aD ?_)); refine aC (aT rfl rfl (by omega) (by omega)) ?_; refine aC (gG (n := a + j) rfl rfl Tryz.underlying9 (by omega) (by omega)) ?_
   refine aC (iB (sb s (a + j)) rfl Tryz.underlying5 Tryz.underlying3 (by omega) (by simp [IntKind.max, IntKind.bits, IntKind.signed] <;> omega)) ?_
   refine aC (aT rfl rfl (by omega) (by omega)) ?_; refine aC (aX rfl rfl (by omega) (by omega)) ?_; refine cL (aE (bC (aB (aQ (aD ?_))))); refine aC (aT rfl rfl (by omega) (by omega)) ?_; refine cL (aE (aM ?_)); refine ⟨(j + 1, _), ?_, ⟨rfl, rfl, trivial⟩, ⟨rfl, rfl, rfl, rfl, trivial⟩, y, ?_⟩
   · (try dsimp only); omega
   try dsimp only
   refine ⟨by omega, by omega, fun h => by omega, fun h => ?_, fun h => ?_, fun h => ?_⟩
   · obtain rfl : j = 1 := by omega
     have := g1 rfl; omega
   · obtain rfl : j = 2 := by omega
     have := g2 rfl; omega
   · obtain rfl : j = 3 := by omega
     have := g3 rfl; omega
  refine bJ (bD (bD (bI (aB ?_)))); refine csr (aD (wan (aS (br1 ?_)))); refine ⟨?_, ((((Evo.refl [] w).then G).then H).then y)⟩
  obtain rfl : j = k := by omega
  congr 1
  unfold dL
  repeat' split at hx2
  all_goals (repeat' split)
  all_goals omega
theorem CX {w : World} (s : ByteArray) (a : Nat) (ha : a ≤ s.size) (hl : s.size ≤ 140737488355328) : Calls Tryz.prog 90 #[.string s, .int .i64 (a : Nat)] w (Ret fun v w' => v = .tuple #[.int .i32 (nD s a).1, .int .i64 ((nD s a).2 : Nat)] ∧ Evo [] w w') := by
  refine aU (N := 52) Tryz.func90 rfl rfl rfl ?_; refine csr (cL (wan (aL (csr (aD (aC (cE rfl rfl) ?_)))))); refine aD (bQ (t := 11) rfl (fun I => ?_) (fun I => ?_))
  ·refine bB (bB (bB (bB (cF (wnn (eX rfl ?_)))))); refine csr (cL (wan (aS (aI (cQ rfl rfl rfl ?_)))))
   exfalso; omega
  refine aW (aD (aW (aD (aW (aC (dW rfl Tryz.underlying9 rfl) ?_))))); refine aW (aC (fF rfl rfl) ?_); refine bY (wnn (bP rfl (fun J => ?_) (fun J => ?_)))
  ·refine csr (cL (wan (aS (aI (cQ rfl rfl rfl ?_)))))
   exact ⟨by rw [KE (by omega)]; rfl, (Evo.refl [] w)⟩
  refine aR (aB (aL (csr (wan (aZ ?_))))); refine cH (α := Nat) (1) (fun k => [(6, .int .i64 (k : Nat))]) [(0, _), (1, _)] (fun k wr => Evo [] w wr ∧ (1 ≤ k ∧ k ≤ 5 ∧ ∀ w, 1 ≤ w → w < k → a + w ≤ s.size → ¬ Hit s a w)) (fun k => 5 - k) ⟨rfl, trivial⟩ ⟨rfl, rfl, trivial⟩ ⟨Evo.refl _ _, ⟨by omega, by omega, fun w h1 h2 => by omega⟩⟩ ?_; rintro k wr1 ⟨F, ⟨h1, h2, hno⟩⟩; show CW _ _ _ _ [(6, _), (0, _), (1, _)] _; have D := (Evo.refl [] w).then F; refine aL (csr (aD (aC (eP rfl rfl) ?_))); refine aD (bQ (t := 19) rfl (fun K => ?_) (fun K => ?_))
  ·refine aW (aD (aW (aD (aW (aC (dW rfl Tryz.underlying9 rfl) ?_))))); refine aW (aD (aW ?_)); refine aC (aX rfl rfl (by omega) (by omega)) ?_; refine aW (aC (eP rfl rfl) ?_); refine cF (wnn (bP rfl (fun L => ?_) (fun L => ?_)))
   ·refine aR (aB (aL (aZ (csr (aD (aD (aD ?_))))))); refine aG (vs := [_, _, _]) uD rfl (KS s a k (by omega) (by omega) (by omega) hl) rfl ?_; rintro _ w4 ⟨rfl, G⟩
    have hgb : -9223372036854775808 ≤ dL s a k ∧ dL s a k ≤ 9223372036854775807 := by have := AR s a k; omega
    refine wan (csr (aD (aG (vs := [_]) uC rfl (form_ok _ hgb.1 hgb.2) rfl ?_))); rintro _ w8 ⟨rfl, H⟩; have E := (F.then G).then H; refine wan (csr (aD (aC (dW rfl Tryz.underlying9 rfl) ?_))); refine aD (wel ?_); refine aD (bQ (t := 39) rfl (fun y => ?_) (fun y => ?_))
    ·refine aW (aD (aW (aD (aW (aD (aW (aD (aW ?_)))))))); refine aC (aT rfl rfl (by omega) (by omega)) ?_; refine aW ?_; refine aC (FO (l := a) (h := a + k) rfl rfl rfl Tryz.underlying9 rfl (by omega) (by omega) (by omega)) ?_; refine aW (aD (aW (aC (nW rfl rfl) ?_))); refine cF (wnn (bP rfl (fun A => ?_) (fun A => ?_)))
     ·have hit : Hit s a k := (wR (by omega)).2 (by assumption); have hn := sT (by omega) (by omega) (by omega) hit; refine csr (aD ?_)
      refine aC (jQ rfl Tryz.underlying3 Tryz.underlying21 (by simp [IntKind.min, IntKind.signed, IntKind.bits]; omega) (by simp [IntKind.max, IntKind.signed, IntKind.bits]; omega)) ?_
      refine aD (cL (wan (aS (bA (aI (aI (bA (aI (cQ rfl rfl rfl ?_))))))))); exact ⟨by rw [hn.1], ((D.then G).then H)⟩
     refine aR (bC (aB (aQ (aD ?_)))); refine aC (aT rfl rfl (by omega) (by omega)) ?_; refine cL (aE (aM ?_)); refine ⟨k + 1, ?_, ⟨rfl, trivial⟩, ⟨rfl, rfl, trivial⟩, E, ?_⟩
     · omega
     refine ⟨by omega, by omega, fun w h3 h4 h5 => ?_⟩
     by_cases hw : w < k
     · exact hno w h3 hw h5
     · obtain rfl : w = k := by omega
       intro hit
       first | exact A ((wR (by omega)).1 hit) | exact y (by rw [vW, FJ hit])
    refine bB (bB (bB (bB (bB (bB (bB (bB (bY (wnn (cY rfl ?_)))))))))); refine aR (bC (aB (aQ (aD ?_)))); refine aC (aT rfl rfl (by omega) (by omega)) ?_; refine cL (aE (aM ?_)); refine ⟨k + 1, ?_, ⟨rfl, trivial⟩, ⟨rfl, rfl, trivial⟩, E, ?_⟩
    · omega
    refine ⟨by omega, by omega, fun w h3 h4 h5 => ?_⟩
    by_cases hw : w < k
    · exact hno w h3 hw h5
    · obtain rfl : w = k := by omega
      intro hit
      first | exact A ((wR (by omega)).1 hit) | exact y (by rw [vW, FJ hit])
   refine bJ (bD (bD (bI (aB ?_)))); refine csr (cL (wan (aS (cQ rfl rfl rfl ?_))))
   exact ⟨by rw [mU fun w h3 h4 h5 => hno w h3 (by omega) h5]; rfl, D⟩
  refine bB (bB (bB (bB (bB (bB (bY (wnn (cY rfl ?_)))))))); refine bJ (bD (bD (bI (aB ?_)))); refine csr (cL (wan (aS (cQ rfl rfl rfl ?_))))
  exact ⟨by rw [mU fun w h3 h4 h5 => hno w h3 (by omega) h5]; rfl, D⟩
end Go.Proofs.YtlpdhbmhbjjnhaaGreatDoor
namespace Go.Proofs.YtlpdhbmhbjjnhaaGreatDoor
open Go.RowKit Go.W
attribute [local irreducible] Decidable.decide
theorem pC : dC Tryz.prog 60 := ⟨_, Tryz.func60, by kernel_rfl, by kernel_rfl⟩
theorem pB : dC Tryz.prog 63 := ⟨_, Tryz.func63, by kernel_rfl, by kernel_rfl⟩
theorem pA : dC Tryz.prog 64 := ⟨_, Tryz.func64, by kernel_rfl, by kernel_rfl⟩
theorem LS {s : ByteArray} : ¬ s = ByteArray.mk #[] ↔ 0 < s.size := by
  constructor
  · intro h
    rcases Nat.eq_zero_or_pos s.size with e | e
    · cases s with
      | mk d => exact absurd (by rw [show d = #[] from Array.size_eq_zero_iff.1 e]) h
    · exact e
  · intro h e
    rw [e] at h
    cases h
def mE (s : ByteArray) (j : Nat) : Prop := ¬ dK (sb s j) ∧ (j = 0 ∨ ¬ (48 ≤ sb s j ∧ sb s j ≤ 57))
def lI (s : ByteArray) (j : Nat) : Prop := ¬ dK (sb s j) ∧ sb s j ≠ 58 ∧ (j = 0 ∨ ¬ (48 ≤ sb s j ∧ sb s j ≤ 57))
theorem vK (s : ByteArray) : eZ s ↔ ¬ s = ByteArray.mk #[] ∧ ∀ j, j < s.size → ¬ mE s j := by
  rw [LS]
  unfold eZ mE nE
  constructor
  · rintro ⟨h1, h2, h3⟩
    refine ⟨h1, fun j hj ⟨h4, h5⟩ => ?_⟩
    rcases h3 j hj with h6 | h6
    · exact h4 h6
    · rcases h5 with rfl | h5
      · exact h4 h2
      · exact h5 h6
  · rintro ⟨h1, h2⟩
    refine ⟨h1, Classical.byContradiction fun h => h2 0 h1 ⟨h, .inl rfl⟩, fun j hj => ?_⟩
    by_cases h : dK (sb s j)
    · exact .inl h
    · exact .inr (Classical.byContradiction fun h3 => h2 j hj ⟨h, .inr h3⟩)
theorem sV (s : ByteArray) : eV s ↔ ¬ s = ByteArray.mk #[] ∧ ∀ j, j < s.size → ¬ lI s j := by
  rw [LS]
  unfold eV lI AK nE
  constructor
  · rintro ⟨h1, h2, h3⟩
    refine ⟨h1, fun j hj ⟨h4, h5, h6⟩ => ?_⟩
    rcases h3 j hj with (h7 | h7) | h7
    · exact h4 h7
    · rcases h6 with rfl | h6
      · exact h2 h7
      · exact h6 h7
    · exact h5 h7
  · rintro ⟨h1, h2⟩
    have h3 := h2 0 h1
    refine ⟨h1, fun h4 => ?_, fun j hj => ?_⟩
    · refine h3 ⟨fun h5 => ?_, by omega, .inl rfl⟩
      unfold dK at h5
      omega
    · by_cases h : dK (sb s j)
      · exact .inl (.inl h)
      · by_cases h5 : sb s j = 58
        · exact .inr h5
        · exact .inl (.inr (Classical.byContradiction fun h6 => h2 j hj ⟨h, h5, .inr h6⟩))
theorem sM {w : World} (c : Nat) : Calls Tryz.prog 63 #[.int .u8 (c : Nat)] w (Ret fun r w' => r = .bool (decide (dK c)) ∧ Evo [] w w') := by
  refine aU (N := 21) Tryz.func63 rfl rfl rfl ?_; refine csr (wan (csr (aD (wel ?_)))); refine aD (bQ (t := 5) rfl (fun D => ?_) (fun D => ?_))
  ·refine bB (bB (bB (dY ?_))); refine dY ?_; refine bB (cF (aD (bB (bB (bB (dY ?_)))))); refine dY ?_; refine bB (cF (wan (aS (br1 ?_)))); refine ⟨congrArg Value.bool (Bool.eq_iff_iff.2 ?_), (Evo.refl [] w)⟩; simp only [decide_eq_true_eq, Bool.false_eq_true, eq_self, true_iff, false_iff]; unfold dK; omega
  refine aW (aD (aW (aC (fF rfl rfl) ?_))); refine aW (aD (bQ (t := 8) rfl (fun E => ?_) (fun E => ?_)))
  ·refine aW (aD (aW (aC (eP rfl rfl) ?_))); refine aW (cF (bY (aD (bQ (t := 13) rfl (fun A => ?_) (fun A => ?_)))))
   ·refine bB (bB (bB (dY ?_))); refine dY ?_; refine bB (cF (wan (aS (br1 ?_)))); refine ⟨congrArg Value.bool (Bool.eq_iff_iff.2 ?_), (Evo.refl [] w)⟩; simp only [decide_eq_true_eq, Bool.false_eq_true, eq_self, true_iff, false_iff]; unfold dK; omega
   refine aW (aD (aW (aC (fF rfl rfl) ?_))); refine aW (aD (bQ (t := 16) rfl (fun y => ?_) (fun y => ?_)))
   ·refine aW (aD (aW (aC (eP rfl rfl) ?_))); refine aW (cF (bY (wan (aS (br1 ?_))))); refine ⟨congrArg Value.bool (Bool.eq_iff_iff.2 ?_), (Evo.refl [] w)⟩; simp only [decide_eq_true_eq, Bool.false_eq_true, eq_self, true_iff, false_iff]; unfold dK; omega
   refine bB (bB (aW (bY (bY (wan (aS (br1 ?_))))))); refine ⟨congrArg Value.bool (Bool.eq_iff_iff.2 ?_), (Evo.refl [] w)⟩; simp only [decide_eq_true_eq, Bool.false_eq_true, eq_self, true_iff, false_iff]; unfold dK; omega
  refine bB (bB (aW (bY (bY (aD (aW (aD (aW (aC (fF rfl rfl) ?_))))))))); refine aW (aD (bQ (t := 16) rfl (fun y => ?_) (fun y => ?_)))
  ·refine aW (aD (aW (aC (eP rfl rfl) ?_))); refine aW (cF (bY (wan (aS (br1 ?_))))); refine ⟨congrArg Value.bool (Bool.eq_iff_iff.2 ?_), (Evo.refl [] w)⟩; simp only [decide_eq_true_eq, Bool.false_eq_true, eq_self, true_iff, false_iff]; unfold dK; omega
  refine bB (bB (aW (bY (bY (wan (aS (br1 ?_))))))); refine ⟨congrArg Value.bool (Bool.eq_iff_iff.2 ?_), (Evo.refl [] w)⟩; simp only [decide_eq_true_eq, Bool.false_eq_true, eq_self, true_iff, false_iff]; unfold dK; omega
theorem vD {w : World} (c : Nat) : Calls Tryz.prog 64 #[.int .u8 (c : Nat)] w (Ret fun r w' => r = .bool (decide (48 ≤ c ∧ c ≤ 57)) ∧ Evo [] w w') := by
  refine aU (N := 9) Tryz.func64 rfl rfl rfl ?_; refine csr (wan (csr (aD (aC (fF rfl rfl) ?_)))); refine aD (bQ (t := 5) rfl (fun y => ?_) (fun y => ?_))
  ·refine aW (aD (aW (aC (eP rfl rfl) ?_))); refine cF (wan (aS (br1 ?_))); refine ⟨congrArg Value.bool (Bool.eq_iff_iff.2 ?_), (Evo.refl [] w)⟩; simp only [decide_eq_true_eq, Bool.false_eq_true, eq_self, true_iff, false_iff]; omega
  refine bB (bB (bY (wan (aS (br1 ?_))))); refine ⟨congrArg Value.bool (Bool.eq_iff_iff.2 ?_), (Evo.refl [] w)⟩; simp only [decide_eq_true_eq, Bool.false_eq_true, eq_self, true_iff, false_iff]; omega
theorem zZ {w : World} (s : ByteArray) (hl : s.size ≤ 140737488355328) : Calls Tryz.prog 61 #[.string s] w (Ret fun r w' => r = .bool (decide (eZ s)) ∧ Evo [] w w') := by
  refine aU (N := 28) Tryz.func61 rfl rfl rfl ?_; refine csr (wan (aL (csr (wan (aZ ?_))))); refine cH (α := Nat) (0) (fun k => [(3, .int .i64 (k : Nat))]) [(0, _)] (fun k wr => Evo [] w wr ∧ (k ≤ s.size ∧ ∀ j, j < k → ¬ mE s j)) (fun k => s.size - k) ⟨rfl, trivial⟩ ⟨rfl, trivial⟩ ⟨Evo.refl _ _, ⟨Nat.zero_le _, fun j h => by omega⟩⟩ ?_; rintro k wr1 ⟨E, ⟨hk, hno⟩⟩; show CW _ _ _ _ [(3, _), (0, _)] _; have F := (Evo.refl [] w).then E; refine aL (csr (aD (aD (aC (dW rfl Tryz.underlying9 rfl) ?_)))); refine aC (cE rfl rfl) ?_; refine wnn (bP rfl (fun J => ?_) (fun J => ?_))
  ·refine aR (aB (aL (aZ (aL (eY (α := Bool) (fun z25 => [(25, .bool z25)]) [(0, _), (3, _)] (fun z25 wr => Evo [] wr1 wr ∧ (z25 = true ↔ (mE s k))) ⟨rfl, rfl, trivial⟩ ?_ ?_)))))
   ·refine aQ (aD (aD ?_)); refine aC (gG (n := k) rfl rfl Tryz.underlying9 rfl (by omega)) ?_; refine aG (vs := [_]) pB rfl (sM (sb s k)) rfl ?_; rintro _ w4 ⟨rfl, K⟩; have A := (Evo.refl [] wr1).then K; refine aC (lK rfl) ?_; refine aD (bQ (t := 15) rfl (fun G => ?_) (fun G => ?_))
    ·refine aW (aD (aW (wel ?_))); refine aW (aD (bQ (t := 18) rfl (fun H => ?_) (fun H => ?_)))
     ·refine bB (bB (bB (bB (bB (aW (cF (cF (aE (aM ?_))))))))); refine ⟨_, ⟨rfl, trivial⟩, ⟨rfl, rfl, trivial⟩, A, ?_⟩
      simp only [decide_eq_true_eq, Bool.false_eq_true, Bool.true_eq_false, true_iff, false_iff, eq_self, iff_true]; unfold mE dK at *; omega
     refine aW (aD (aW (aD (aW ?_)))); refine aC (gG (n := k) rfl rfl Tryz.underlying9 rfl (by omega)) ?_; refine aW (aG (vs := [_]) pA rfl (vD (sb s k)) rfl ?_); rintro _ w9 ⟨rfl, I⟩; refine aW (aC (lK rfl) ?_); refine aW (bY (cF (aE (aM ?_)))); refine ⟨_, ⟨rfl, trivial⟩, ⟨rfl, rfl, trivial⟩, (A.then I), ?_⟩
     simp only [decide_eq_true_eq, Bool.false_eq_true, Bool.true_eq_false, true_iff, false_iff, eq_self, iff_true]; unfold mE dK at *; omega
    refine bB (bB (bB (dY ?_))); refine dY ?_; refine dY ?_; refine dY ?_; refine dY ?_; refine bB (bY (aE (aM ?_))); refine ⟨_, ⟨rfl, trivial⟩, ⟨rfl, rfl, trivial⟩, A, ?_⟩
    simp only [decide_eq_true_eq, Bool.false_eq_true, Bool.true_eq_false, true_iff, false_iff, eq_self, iff_true]; unfold mE dK at *; omega
   rintro z25 L ⟨D, hz25⟩; refine aB ?_; show CW _ _ _ _ [(25, _), (0, _), (3, _)] _; refine dX rfl (fun y => ?_) (fun y => ?_)
   ·subst y; have hj25 := hz25.1 rfl; refine csr (wan (aS (bA (aI (aI (bA (aI (br1 ?_)))))))); refine ⟨congrArg Value.bool (Bool.eq_iff_iff.2 ?_), (F.then D)⟩; simp only [decide_eq_true_eq, Bool.false_eq_true, false_iff]; exact fun h => ((vK s).1 h).2 k (by omega) hj25
   subst y
   have hj25 : ¬ (mE s k) := fun h9 => by have := hz25.2 h9; cases this
   refine aR (bC (aB (aQ (aD ?_)))); refine aC (aT rfl rfl (by omega) (by omega)) ?_; refine cL (aE (aM ?_)); refine ⟨k + 1, ?_, ⟨rfl, trivial⟩, ⟨rfl, trivial⟩, (E.then D), ?_⟩
   · omega
   exact ⟨by omega, fun j hj => by by_cases e : j = k; (subst e; exact hj25); exact hno j (by omega)⟩
  refine bJ (bD (bD (bI (aB ?_)))); refine csr (aD (aC (iP rfl rfl) ?_)); refine wan (aS (br1 ?_)); refine ⟨congrArg Value.bool (Bool.eq_iff_iff.2 ?_), F⟩; simp only [decide_eq_true_eq]; rw [vK]; exact ⟨fun h => ⟨h, fun j hj => hno j (by omega)⟩, fun h => h.1⟩
theorem wJ {w : World} (s : ByteArray) (hl : s.size ≤ 140737488355328) : Calls Tryz.prog 44 #[.string s] w (Ret fun r w' => r = .bool (decide (eV s)) ∧ Evo [] w w') := by
  refine aU (N := 34) Tryz.func44 rfl rfl rfl ?_; refine csr (wan (aL (csr (wan (aZ ?_))))); refine cH (α := Nat) (0) (fun k => [(3, .int .i64 (k : Nat))]) [(0, _)] (fun k wr => Evo [] w wr ∧ (k ≤ s.size ∧ ∀ j, j < k → ¬ lI s j)) (fun k => s.size - k) ⟨rfl, trivial⟩ ⟨rfl, trivial⟩ ⟨Evo.refl _ _, ⟨Nat.zero_le _, fun j h => by omega⟩⟩ ?_; rintro k wr1 ⟨E, ⟨hk, hno⟩⟩; show CW _ _ _ _ [(3, _), (0, _)] _; have F := (Evo.refl [] w).then E; refine aL (csr (aD (aD (aC (dW rfl Tryz.underlying9 rfl) ?_)))); refine aC (cE rfl rfl) ?_; refine wnn (bP rfl (fun K => ?_) (fun K => ?_))
  ·refine aR (aB (aL (aZ (aL (eY (α := Bool) (fun z31 => [(31, .bool z31)]) [(0, _), (3, _)] (fun z31 wr => Evo [] wr1 wr ∧ (z31 = true ↔ (lI s k))) ⟨rfl, rfl, trivial⟩ ?_ ?_)))))
   ·refine aQ (aD (aD ?_)); refine aC (gG (n := k) rfl rfl Tryz.underlying9 rfl (by omega)) ?_; refine aG (vs := [_]) pB rfl (sM (sb s k)) rfl ?_; rintro _ w4 ⟨rfl, L⟩; have A := (Evo.refl [] wr1).then L; refine aC (lK rfl) ?_; refine aD (bQ (t := 15) rfl (fun G => ?_) (fun G => ?_))
    ·refine aW (aD (aW (aD (aW ?_)))); refine aC (gG (n := k) rfl rfl Tryz.underlying9 rfl (by omega)) ?_; refine aW (aC (eO rfl rfl) ?_); refine cF (aD (bQ (t := 21) rfl (fun H => ?_) (fun H => ?_)))
     ·refine aW (aD (aW (wel ?_))); refine aW (aD (bQ (t := 24) rfl (fun I => ?_) (fun I => ?_)))
      ·refine bB (bB (bB (bB (bB (aW (cF (cF (aE (aM ?_))))))))); refine ⟨_, ⟨rfl, trivial⟩, ⟨rfl, rfl, trivial⟩, A, ?_⟩
       simp only [decide_eq_true_eq, Bool.false_eq_true, Bool.true_eq_false, true_iff, false_iff, eq_self, iff_true]; unfold lI dK at *; omega
      refine aW (aD (aW (aD (aW ?_)))); refine aC (gG (n := k) rfl rfl Tryz.underlying9 rfl (by omega)) ?_; refine aW (aG (vs := [_]) pA rfl (vD (sb s k)) rfl ?_); rintro _ w9 ⟨rfl, J⟩; refine aW (aC (lK rfl) ?_); refine aW (bY (cF (aE (aM ?_)))); refine ⟨_, ⟨rfl, trivial⟩, ⟨rfl, rfl, trivial⟩, (A.then J), ?_⟩
      simp only [decide_eq_true_eq, Bool.false_eq_true, Bool.true_eq_false, true_iff, false_iff, eq_self, iff_true]; unfold lI dK at *; omega
     refine bB (bB (bB (dY ?_))); refine dY ?_; refine dY ?_; refine dY ?_; refine dY ?_; refine bB (bY (aE (aM ?_))); refine ⟨_, ⟨rfl, trivial⟩, ⟨rfl, rfl, trivial⟩, A, ?_⟩
     simp only [decide_eq_true_eq, Bool.false_eq_true, Bool.true_eq_false, true_iff, false_iff, eq_self, iff_true]; unfold lI dK at *; omega
    refine bB (bB (bB (bB (bY (aD (bB (bB (bB (dY ?_))))))))); refine dY ?_; refine dY ?_; refine dY ?_; refine dY ?_; refine bB (bY (aE (aM ?_))); refine ⟨_, ⟨rfl, trivial⟩, ⟨rfl, rfl, trivial⟩, A, ?_⟩
    simp only [decide_eq_true_eq, Bool.false_eq_true, Bool.true_eq_false, true_iff, false_iff, eq_self, iff_true]; unfold lI dK at *; omega
   rintro z31 M ⟨D, hz31⟩; refine aB ?_; show CW _ _ _ _ [(31, _), (0, _), (3, _)] _; refine dX rfl (fun y => ?_) (fun y => ?_)
   ·subst y; have hj31 := hz31.1 rfl; refine csr (wan (aS (bA (aI (aI (bA (aI (br1 ?_)))))))); refine ⟨congrArg Value.bool (Bool.eq_iff_iff.2 ?_), (F.then D)⟩; simp only [decide_eq_true_eq, Bool.false_eq_true, false_iff]; exact fun h => ((sV s).1 h).2 k (by omega) hj31
   subst y
   have hj31 : ¬ (lI s k) := fun h9 => by have := hz31.2 h9; cases this
   refine aR (bC (aB (aQ (aD ?_)))); refine aC (aT rfl rfl (by omega) (by omega)) ?_; refine cL (aE (aM ?_)); refine ⟨k + 1, ?_, ⟨rfl, trivial⟩, ⟨rfl, trivial⟩, (E.then D), ?_⟩
   · omega
   exact ⟨by omega, fun j hj => by by_cases e : j = k; (subst e; exact hj31); exact hno j (by omega)⟩
  refine bJ (bD (bD (bI (aB ?_)))); refine csr (aD (aC (iP rfl rfl) ?_)); refine wan (aS (br1 ?_)); refine ⟨congrArg Value.bool (Bool.eq_iff_iff.2 ?_), F⟩; simp only [decide_eq_true_eq]; rw [sV]; exact ⟨fun h => ⟨h, fun j hj => hno j (by omega)⟩, fun h => h.1⟩
theorem vC {w : World} (a b : ByteArray) : Calls Tryz.prog 60 #[.string a, .string b] w (Ret fun r w' => r = iv3 (iX a b) ∧ Evo [] w w') := by
  refine aU (N := 11) Tryz.func60 rfl rfl rfl ?_; refine csr (wan (aL (csr (aD (aD (aC (AU rfl rfl) ?_)))))); refine wnn (bP rfl (fun A => ?_) (fun A => ?_))
  ·refine csr (wan (aS (aI (br1 ?_))))
   exact ⟨congrArg iv3 (by unfold iX; rw [if_pos A]), (Evo.refl [] w)⟩
  refine aR (aB (aL (csr (aD (aD (aC (AV rfl rfl) ?_)))))); refine wnn (bP rfl (fun y => ?_) (fun y => ?_))
  ·refine csr (wan (aS (aI (br1 ?_))))
   exact ⟨congrArg iv3 (by unfold iX; rw [if_neg A, if_pos y]), (Evo.refl [] w)⟩
  refine aR (aB (csr (wan (aS (br1 ?_)))))
  exact ⟨congrArg iv3 (by unfold iX; rw [if_neg A, if_neg y]), (Evo.refl [] w)⟩
theorem qT {X Y : List Nat} {w : World} {v1 v2 : Value} {a b : List LB} (h1 : RSl 2 RLB X w v1 a) (h2 : RSl 2 RLB Y w v2 b) (hl1 : a.length ≤ 1000000000) (hl2 : b.length ≤ 1000000000) : Calls Tryz.prog 39 #[v1, v2] w (Ret fun r w' => r = iv3 (dI a b) ∧ Evo [] w w') := by
  obtain ⟨sa, sc, rfl, hlc, e1⟩ := h1; obtain ⟨ta, tc, rfl, hlc2, e2⟩ := h2; refine aU (N := 56) Tryz.func39 rfl rfl rfl ?_; refine csr (wan (aL (csr (wan (aZ (cH (α := Nat) (0) (fun k => [(5, .int .i64 (k : Nat))]) [(0, _), (1, _)] (fun k wr => Evo [] w wr ∧ (k ≤ a.length ∧ k ≤ b.length ∧ dI (a.drop k) (b.drop k) = dI a b)) (fun k => a.length - k) ⟨rfl, trivial⟩ ⟨rfl, rfl, trivial⟩ ⟨Evo.refl _ _, ⟨Nat.zero_le _, Nat.zero_le _, rfl⟩⟩ ?_)))))); rintro k wr1 ⟨U, ⟨hka, hkb, hcm⟩⟩; show CW _ _ _ _ [(5, _), (0, _), (1, _)] _; have I := (Evo.refl [] w).then U; refine aL (aL (eY (α := Bool) (fun z16 => [(16, .bool z16)]) [(0, _), (1, _), (5, _)] (fun z16 wr => wr1 = wr ∧ (z16 = true ↔ (k < a.length ∧ k < b.length))) ⟨rfl, rfl, rfl, trivial⟩ ?_ ?_))
  ·refine aQ (aD (aD (aC (aP rfl Tryz.underlying42 rfl) ?_))); refine aC (cE rfl rfl) ?_; refine aD (bQ (t := 11) rfl (fun a1 => ?_) (fun a1 => ?_))
   ·refine aW (aD (aW (aD (aW (aC (aP rfl Tryz.underlying42 rfl) ?_))))); refine aW (aC (cE rfl rfl) ?_); refine cF (aE (aM ?_)); refine ⟨_, ⟨rfl, trivial⟩, ⟨rfl, rfl, rfl, trivial⟩, rfl, ?_⟩
    simp only [decide_eq_true_eq, Bool.false_eq_true, Bool.true_eq_false, true_iff, false_iff, eq_self, iff_true]; omega
   refine bB (bB (bB (bB (bY (aE (aM ?_)))))); refine ⟨_, ⟨rfl, trivial⟩, ⟨rfl, rfl, rfl, trivial⟩, rfl, ?_⟩
   simp only [decide_eq_true_eq, Bool.false_eq_true, Bool.true_eq_false, true_iff, false_iff, eq_self, iff_true]; omega
  rintro z16 _ ⟨rfl, hz16⟩; refine aB ?_; show CW _ _ _ _ [(16, _), (0, _), (1, _), (5, _)] _; refine dX rfl (fun F => ?_) (fun F => ?_)
  ·subst F; have hj16 := hz16.1 rfl; obtain ⟨hk1, hk2⟩ := hj16; obtain ⟨b1, o1, vs1, ha1, hb1, -, V, rfl, hz1⟩ := e1 k hk1; obtain ⟨b2, o2, vs2, ha2, hb2, -, W, rfl, hz2⟩ := e2 k hk2; have hst := nY hk1 hk2; refine aR (aB (aL (aZ (aL ?_)))); refine eG (fun w0 w' => Evo [] w0 w') (by kernel_rfl) (fun w6 a0 => ?_); have J := I.then a0; refine aet 0 rfl (fun _ hS => aV rfl) (Evo.refl [] w6) ?_; refine aet 1 rfl (fun _ hS => aV rfl) (Evo.refl [] w6) ?_; refine aet 2 rfl (fun _ hS => aY (n := k) rfl rfl ha1 rfl bZ hk1) (Evo.refl [] w6) ?_; refine aet 3 rfl (fun _ hS => aA rfl cD) (Evo.refl [] w6) ?_; refine aet 4 rfl (fun _ hS => aF rfl bR ((V.evo (((J.then hS)).any X) hb1) 0 _ rfl)) (Evo.refl [] w6) ?_; refine aet 5 rfl (fun _ hS => aV rfl) (Evo.refl [] w6) ?_; refine aet 6 rfl (fun _ hS => aV rfl) (Evo.refl [] w6) ?_; refine aet 7 rfl (fun _ hS => aY (n := k) rfl rfl ha2 rfl bZ hk2) (Evo.refl [] w6) ?_; refine aet 8 rfl (fun _ hS => aA rfl cD) (Evo.refl [] w6) ?_
   refine aet 9 rfl (fun _ hS => aF rfl bR ((W.evo (((J.then hS)).any Y) hb2) 0 _ rfl)) (Evo.refl [] w6) ?_; refine aN [10] (by kernel_rfl) rfl ⟨?_, trivial⟩; refine aO rfl ?_; refine aG (vs := [_, _]) pC rfl (vC a[k].1 b[k].1) rfl ?_; rintro _ a4 ⟨rfl, E⟩; have K := (U.then a0).then E; have L := (Evo.refl [] w6).then E; refine aE (aJ (.inl L) ?_); refine aet 11 rfl (fun _ hS => fB rfl) L ?_; refine bN (by kernel_rfl) (aB ?_); refine aL (csr (aD (wel ?_))); refine wnn (bP rfl (fun D => ?_) (fun D => ?_))
   ·refine eG (fun w0 w' => Evo [] w0 w') (by kernel_rfl) (fun y M => ?_); have G := (J.then E).then M; refine aet 0 rfl (fun _ hS => aV rfl) (Evo.refl [] y) ?_; refine aet 1 rfl (fun _ hS => aV rfl) (Evo.refl [] y) ?_; refine aet 2 rfl (fun _ hS => aY (n := k) rfl rfl ha1 rfl bZ hk1) (Evo.refl [] y) ?_; refine aet 3 rfl (fun _ hS => aA rfl cT) (Evo.refl [] y) ?_; refine aet 4 rfl (fun _ hS => aF rfl bR ((V.evo (((G.then hS)).any X) hb1) 1 _ rfl)) (Evo.refl [] y) ?_; refine aet 5 rfl (fun _ hS => aV rfl) (Evo.refl [] y) ?_; refine aet 6 rfl (fun _ hS => aV rfl) (Evo.refl [] y) ?_; refine aet 7 rfl (fun _ hS => aY (n := k) rfl rfl ha2 rfl bZ hk2) (Evo.refl [] y) ?_; refine aet 8 rfl (fun _ hS => aA rfl cT) (Evo.refl [] y) ?_; refine aet 9 rfl (fun _ hS => aF rfl bR ((W.evo (((G.then hS)).any Y) hb2) 1 _ rfl)) (Evo.refl [] y) ?_; refine aN [10] (by kernel_rfl) rfl ⟨?_, trivial⟩; refine aO rfl ?_; refine aG (vs := [_, _]) pC rfl (vC a[k].2 b[k].2) rfl ?_; rintro _ a5 ⟨rfl, H⟩
    have O := (Evo.refl [] y).then H; refine aE (aJ (.inl O) ?_); refine aet 11 rfl (fun _ hS => fB rfl) O ?_; refine bN (by kernel_rfl) (aB ?_); refine csr (aD (aC (eO rfl rfl) ?_)); refine wnn (bP rfl (fun A => ?_) (fun A => ?_))
    ·refine csr (aD (wan (aS (bA (aI (aI (bA (aI (br1 ?_)))))))))
     have hz : kA a[k] b[k] = iX a[k].2 b[k].2 := by unfold kA; rw [if_neg (fun h => h D)]
     refine ⟨congrArg iv3 ?_, (G.then H)⟩
     rw [← hcm, hst, if_pos (by rw [hz]; exact A), hz]
    refine aR (bC (aB (aQ (aD ?_)))); refine aC (aT rfl rfl (by omega) (by omega)) ?_; refine cL (aE (aM ?_)); refine ⟨k + 1, ?_, ⟨rfl, trivial⟩, ⟨rfl, rfl, trivial⟩, ((K.then M).then H), ?_⟩
    · omega
    have hz : kA a[k] b[k] = 0 := by unfold kA; rw [if_neg (fun h => h D)]; omega
    rw [if_neg (fun h => h hz)] at hst; exact ⟨by omega, by omega, by rw [← hst, hcm]⟩
   refine aR (aB (csr (aD (aC (eO rfl rfl) ?_)))); refine wnn (bP rfl (fun A => ?_) (fun A => ?_))
   ·refine csr (aD (wan (aS (bA (aI (aI (bA (aI (br1 ?_)))))))))
    have hz : kA a[k] b[k] = iX a[k].1 b[k].1 := by unfold kA; rw [if_pos D]
    refine ⟨congrArg iv3 ?_, (J.then E)⟩
    rw [← hcm, hst, if_pos (by rw [hz]; exact A), hz]
   refine aR (bC (aB (aQ (aD ?_)))); refine aC (aT rfl rfl (by omega) (by omega)) ?_; refine cL (aE (aM ?_)); refine ⟨k + 1, ?_, ⟨rfl, trivial⟩, ⟨rfl, rfl, trivial⟩, K, ?_⟩
   · omega
   exact absurd (Classical.not_not.1 A) D
  subst F
  have hj16 : ¬ (k < a.length ∧ k < b.length) := fun h9 => by have := hz16.2 h9; cases this
  refine bJ (bD (bD (bI (aB ?_)))); refine aL (csr (aD (aC (aP rfl Tryz.underlying42 rfl) ?_))); refine aD (aC (aP rfl Tryz.underlying42 rfl) ?_); refine aC (cE rfl rfl) ?_; refine wnn (bP rfl (fun a2 => ?_) (fun a2 => ?_))
  ·refine csr (wan (aS (aI (br1 ?_)))); refine ⟨congrArg iv3 ?_, I⟩; rw [← hcm, rB (by omega) (by omega)]
  refine aR (aB (aL (csr (aD (aC (aP rfl Tryz.underlying42 rfl) ?_))))); refine aD (aC (aP rfl Tryz.underlying42 rfl) ?_); refine aC (eQ rfl rfl) ?_; refine wnn (bP rfl (fun a3 => ?_) (fun a3 => ?_))
  ·refine csr (wan (aS (aI (br1 ?_)))); refine ⟨congrArg iv3 ?_, I⟩; rw [← hcm, tC (by omega) (by omega)]
  refine aR (aB (csr (wan (aS (br1 ?_))))); refine ⟨congrArg iv3 ?_, I⟩; rw [← hcm, tD (by omega) (by omega)]
theorem xU : dC Tryz.prog 61 := ⟨_, Tryz.func61, by kernel_rfl, by kernel_rfl⟩
theorem xT : dC Tryz.prog 62 := ⟨_, Tryz.func62, by kernel_rfl, by kernel_rfl⟩
theorem xO : dC Tryz.prog 90 := ⟨_, Tryz.func90, by kernel_rfl, by kernel_rfl⟩
theorem oJ {s : ByteArray} {p : Nat} (hp : p < s.size) : ((nD s p).2 = 0 ∧ (Utf8.decode s p).1 = 65533 ∧ ¬ rK s p) ∨ ((nD s p).2 = (Utf8.decode s p).2 ∧ 1 ≤ (Utf8.decode s p).2 ∧ p + (Utf8.decode s p).2 ≤ s.size ∧ ¬ ((Utf8.decode s p).1 = 65533 ∧ ¬ rK s p)) := by
  rcases gS s p hp with ⟨w, h1, h2, h3, h4, h5, h6, h7, -⟩ | ⟨h1, h2⟩
  · right
    have h8 := (sT h1 h2 h3 h4).1
    have e2 : (Utf8.decode s p).2 = w := by rw [h5]
    refine ⟨by rw [h8, e2], by omega, by omega, fun ⟨h9, h10⟩ => ?_⟩
    have h11 := BC s p h9 hp
    have h12 := qZ s p h9 hp
    rcases h11 with h11 | h11
    · have e1 : w = 1 := by omega
      subst e1
      rw [h5] at h9
      have h13 := h4
      unfold Hit at h13
      have h14 : dL s p 1 = 65533 := by simp only at h9; omega
      have h15 := congrArg List.length h13
      rw [h14] at h15
      have h16 : (fW 65533).length = 3 := by decide
      rw [h16] at h15
      simp [fP] at h15
    · exact h10 (h12.1 h11)
  · left
    have h3 := mU h1
    refine ⟨by rw [h3], by rw [h2], fun h => ?_⟩
    have h4 := (qZ s p (by rw [h2]) hp).2 h
    rw [h2] at h4
    cases h4
theorem rutf_ok {w : World} (s : ByteArray) (hl : s.size ≤ 140737488355328) : Calls Tryz.prog 62 #[.string s] w (Ret fun r w' => r = .bool (kB s) ∧ Evo [] w w') := by
  refine aU (N := 21) Tryz.func62 rfl rfl rfl ?_; refine csr (wan (csr (wan (aL (aZ ?_))))); refine cH (α := Nat × Nat) ((s.size + 1, 0)) (fun x => [(3, .int .i64 (x.2 : Nat))]) [(0, _)] (fun x wr => Evo [] w wr ∧ (x.2 ≤ s.size ∧ s.size < x.1 + x.2 ∧ iA s x.1 x.2 = kB s)) (fun x => s.size - x.2) ⟨rfl, trivial⟩ ⟨rfl, trivial⟩ ⟨Evo.refl _ _, ⟨Nat.zero_le _, by simp, rfl⟩⟩ ?_; rintro ⟨f, p⟩ wr1 ⟨y, ⟨hp, hf, hu⟩⟩; show CW _ _ _ _ [(3, .int .i64 (p : Nat)), (0, _)] _
  try dsimp only at hp hf hu
  have A := (Evo.refl [] w).then y; refine aL (csr (aD (aD (aC (dW rfl Tryz.underlying9 rfl) ?_)))); refine aC (cE rfl rfl) ?_; refine wnn (bP rfl (fun F => ?_) (fun F => ?_))
  ·have hp9 : p < s.size := by omega
   refine aR (aB (aZ (csr (aD (aD ?_))))); refine aG (vs := [_, _]) xO rfl (CX s p (by omega) hl) rfl ?_; rintro _ w4 ⟨rfl, D⟩; have G := A.then D; refine aD (aC (cB rfl rfl) ?_); refine aC (cB rfl rfl) ?_; refine cL (wan (aL (csr (aD (wel ?_))))); refine wnn (bP rfl (fun E => ?_) (fun E => ?_))
   ·refine csr (wan (aS (aI (bA (aI (bA (aI (br1 ?_)))))))); obtain ⟨f, rfl⟩ : ∃ f', f = f' + 1 := ⟨f - 1, by omega⟩
    rcases oJ hp9 with ⟨-, h1, h2⟩ | ⟨h1, h2, h3, h4⟩
    · exact ⟨congrArg Value.bool (by rw [← hu, EO hp9 h1 h2]), G⟩
    · exact absurd h1 (by omega)
   refine aR (aB (aQ (aD (aD ?_))))
   refine aC (aT rfl rfl (by (rcases oJ hp9 with ⟨h1, -⟩ | ⟨h1, h2, h3, h4⟩ <;> omega)) (by (rcases oJ hp9 with ⟨h1, -⟩ | ⟨h1, h2, h3, h4⟩ <;> omega))) ?_
   refine cL (aE (bC (aM ?_))); refine ⟨⟨f - 1, p + (nD s p).2⟩, ?_, ⟨rfl, trivial⟩, ⟨rfl, trivial⟩, (y.then D), ?_⟩
   · (try dsimp only); (rcases oJ hp9 with ⟨h1, -⟩ | ⟨h1, h2, h3, h4⟩ <;> omega)
   try dsimp only
   rcases oJ hp9 with ⟨h1, -⟩ | ⟨h1, h2, h3, h4⟩
   · exact absurd h1 (by omega)
   · obtain ⟨f, rfl⟩ : ∃ f', f = f' + 1 := ⟨f - 1, by omega⟩
     rw [sB hp9 h4] at hu; refine ⟨by omega, by omega, ?_⟩; rw [h1, show f + 1 - 1 = f from rfl]; exact hu
  refine bJ (bD (bD (bI (aB ?_)))); refine csr (wan (aS (br1 ?_))); exact ⟨congrArg Value.bool (by rw [← hu, EN (by omega)]), A⟩
theorem GP {X : List Nat} {w : World} {v : Value} {ls : List LB} (hs : RSl 2 RLB X w v ls) (hl : ls.length ≤ 1000000000) : Calls Tryz.prog 41 #[v] w (Ret fun r w' => ∃ b, r = .bool b ∧ (b = true ↔ kY ls) ∧ Evo [] w w') := by
  obtain ⟨sa, sc, rfl, hlc, e1⟩ := hs; refine aU (N := 50) Tryz.func41 rfl rfl rfl ?_; refine csr (wan (aL (csr (wan (aZ ?_))))); refine cH (α := Nat) (0) (fun k => [(3, .int .i64 (k : Nat))]) [(0, _)] (fun k wr => Evo [] w wr ∧ (k ≤ ls.length ∧ lbOkTo ls k)) (fun k => ls.length - k) ⟨rfl, trivial⟩ ⟨rfl, trivial⟩ ⟨Evo.refl _ _, ⟨Nat.zero_le _, fun i _ h => by omega⟩⟩ ?_; rintro k wr1 ⟨M, ⟨hk, hok⟩⟩; show CW _ _ _ _ [(3, _), (0, _)] _; have D := (Evo.refl [] w).then M; refine aL (csr (aD (aD (aC (aP rfl Tryz.underlying42 rfl) ?_)))); refine aC (cE rfl rfl) ?_; refine wnn (bP rfl (fun a1 => ?_) (fun a1 => ?_))
  ·have hk' : k < ls.length := by omega
   obtain ⟨b1, o1, vs1, ha1, hb1, -, G, rfl, hz1, hz2⟩ := e1 k hk'; obtain ⟨b2, o2, vs2, ha2, hb2, -, a2, rfl, hz3, hz4⟩ := e1 (k - 1) (by omega); refine aR (aB (aL (aZ (aL (aL (eY (α := Bool) (fun z33 => [(33, .bool z33)]) [(0, _), (3, _)] (fun z33 wr => Evo [] wr1 wr ∧ (z33 = true ↔ (¬ (eZ ls[k].1 ∧ ls[k].2 ≠ ByteArray.empty ∧ kB ls[k].2 = true)))) ⟨rfl, rfl, trivial⟩ ?_ ?_))))))
   ·refine aQ (aD (aD (aC (aY (n := k) rfl rfl ha1 rfl bZ hk') ?_))); refine aC (aA rfl cD) (aC (aF rfl bR ((G.evo ((D).any X) hb1) 0 _ rfl)) (aG (vs := [_]) xU rfl (zZ ls[k].1 hz1) rfl ?_)); rintro _ w4 ⟨rfl, H⟩; have I := (Evo.refl [] wr1).then H; refine aC (lK rfl) ?_; refine aD (bQ (t := 17) rfl (fun O => ?_) (fun O => ?_))
    ·refine bB (bB (bB (bB (bB (bB (cF (aD (bB (bB (bB (bB (bB (bB (bB ?_)))))))))))))); refine cF (aE (aM ?_)); refine ⟨_, ⟨rfl, trivial⟩, ⟨rfl, rfl, trivial⟩, I, ?_⟩
     rw [show ByteArray.empty = ByteArray.mk #[] from rfl]; by_cases q1 : eZ ls[k].1 <;> by_cases q2 : ls[k].2 = ByteArray.mk #[] <;> by_cases q3 : kB ls[k].2 = true <;> simp_all
    refine aW (aD (aW (aD (aW (aC (aY (n := k) rfl rfl ha1 rfl bZ hk') ?_))))); refine aW (aC (aA rfl cT) (aW (aC (aF rfl bR ((G.evo (((D.then H)).any X) hb1) 1 _ rfl)) (aW (aC (nW rfl rfl) ?_))))); refine bY (aD (bQ (t := 25) rfl (fun U => ?_) (fun U => ?_)))
    ·refine bB (bB (bB (bB (bB (bB (bB (cF (aE (aM ?_))))))))); refine ⟨_, ⟨rfl, trivial⟩, ⟨rfl, rfl, trivial⟩, I, ?_⟩
     rw [show ByteArray.empty = ByteArray.mk #[] from rfl]; by_cases q1 : eZ ls[k].1 <;> by_cases q2 : ls[k].2 = ByteArray.mk #[] <;> by_cases q3 : kB ls[k].2 = true <;> simp_all
    refine aW (aD (aW (aD (aW (aC (aY (n := k) rfl rfl ha1 rfl bZ hk') ?_))))); refine aW (aC (aA rfl cT) (aW (aC (aF rfl bR ((G.evo (((D.then H)).any X) hb1) 1 _ rfl)) (aW (aG (vs := [_]) xT rfl (rutf_ok ls[k].2 hz2) rfl ?_))))); rintro _ w9 ⟨rfl, V⟩; refine aW (aC (eI rfl) ?_); refine bY (aE (aM ?_)); refine ⟨_, ⟨rfl, trivial⟩, ⟨rfl, rfl, trivial⟩, (I.then V), ?_⟩
    rw [show ByteArray.empty = ByteArray.mk #[] from rfl]; by_cases q1 : eZ ls[k].1 <;> by_cases q2 : ls[k].2 = ByteArray.mk #[] <;> by_cases q3 : kB ls[k].2 = true <;> simp_all
   rintro z33 J ⟨K, hz33⟩; refine aB ?_; show CW _ _ _ _ [(33, _), (0, _), (3, _)] _; have A := D.then K; refine dX rfl (fun E => ?_) (fun E => ?_)
   ·subst E; have hj33 := hz33.1 rfl; refine csr (wan (aS (aI (bA (aI (aI (bA (aI (br1 ?_))))))))); exact ⟨false, rfl, ⟨fun h => by (cases h), fun h => absurd (⟨(h k hk').1, (h k hk').2.1, (h k hk').2.2.1⟩ : eZ ls[k].1 ∧ ls[k].2 ≠ ByteArray.empty ∧ kB ls[k].2 = true) hj33⟩, A⟩
   subst E
   have hj33 : ¬ (¬ (eZ ls[k].1 ∧ ls[k].2 ≠ ByteArray.empty ∧ kB ls[k].2 = true)) := fun h9 => by have := hz33.2 h9; cases this
   refine aR (aB (aL (eY (α := Bool) (fun z49 => [(49, .bool z49)]) [(0, _), (3, _)] (fun z49 wr => Evo [] J wr ∧ (z49 = true ↔ (0 < k ∧ ¬ ls[k - 1].1.toList < ls[k].1.toList))) ⟨rfl, rfl, trivial⟩ ?_ ?_)))
   ·refine jR (by kernel_rfl) (by kernel_rfl) ?_; refine cC (fun _ y => aV rfl) ?_; refine cC (fun _ y => eQ rfl rfl) ?_; refine cC (fun _ y => aV rfl) ?_; refine mB (t := 36) rfl (fun W => ?_) (fun W => ?_)
    ·refine qlg ?_; refine cC (fun _ y => aV rfl) ?_; refine qlg ?_; refine cC (fun _ y => aV rfl) ?_; refine qlg ?_; refine cC (fun _ y => aX rfl rfl (by omega) (by omega)) ?_; refine qlg ?_; refine cC (fun _ y => aY (n := k - 1) rfl rfl ha2 (by omega) bZ (by omega)) ?_; refine qlg ?_; refine cC (fun _ y => aA rfl cD) ?_; refine qlg ?_; refine cC (fun _ y => aF rfl bR ((a2.evo (((A.then y)).any X) hb2) 0 _ rfl)) ?_; refine qlg ?_; refine cC (fun _ y => aV rfl) ?_; refine qlg ?_; refine cC (fun _ y => aV rfl) ?_; refine qlg ?_; refine cC (fun _ y => aY (n := k) rfl rfl ha1 rfl bZ hk') ?_; refine qlg ?_; refine cC (fun _ y => aA rfl cD) ?_; refine qlg ?_; refine cC (fun _ y => aF rfl bR ((G.evo (((A.then y)).any X) hb1) 0 _ rfl)) ?_; refine qlg ?_; refine cC (fun _ y => FP rfl rfl) ?_; refine cC (fun _ y => dN rfl rfl) ?_; refine jC (fun Y y => aM ?_); refine ⟨_, ⟨rfl, trivial⟩, ⟨rfl, rfl, trivial⟩, ((Evo.refl [] J).then y), ?_⟩
     first | (simp_all; done) | (simp_all; omega)
    refine qln ?_; refine qln ?_; refine qln ?_; refine qln ?_; refine qln ?_; refine qln ?_; refine qln ?_; refine qln ?_; refine qln ?_; refine qln ?_; refine qln ?_; refine qln ?_; refine cC (fun _ y => dO rfl rfl) ?_; refine jC (fun Y y => aM ?_); refine ⟨_, ⟨rfl, trivial⟩, ⟨rfl, rfl, trivial⟩, ((Evo.refl [] J).then y), ?_⟩
    first | (simp_all; done) | (simp_all; omega)
   rintro z49 a3 ⟨L, hz49⟩; refine aB ?_; show CW _ _ _ _ [(49, _), (0, _), (3, _)] _; have a0 := A.then L; refine dX rfl (fun F => ?_) (fun F => ?_)
   ·subst F; have hj49 := hz49.1 rfl; refine csr (wan (aS (bA (aI (aI (bA (aI (br1 ?_)))))))); exact ⟨false, rfl, ⟨fun h => by (cases h), fun h => absurd ((h k hk').2.2.2 (k - 1) (by omega) (by omega)) hj49.2⟩, a0⟩
   subst F
   have hj49 : ¬ (0 < k ∧ ¬ ls[k - 1].1.toList < ls[k].1.toList) := fun h9 => by have := hz49.2 h9; cases this
   refine aR (bC (aB (aQ (aD ?_)))); refine aC (aT rfl rfl (by omega) (by omega)) ?_; refine cL (aE (aM ?_)); refine ⟨k + 1, ?_, ⟨rfl, trivial⟩, ⟨rfl, trivial⟩, ((M.then K).then L), ?_⟩
   · omega
   have hg := Classical.not_not.1 hj33; refine ⟨by omega, hok.succ hk' hg.1 hg.2.1 hg.2.2 fun j hj e => ?_⟩; subst e; exact Classical.byContradiction fun h9 => hj49 ⟨by omega, h9⟩
  refine bJ (bD (bD (bI (aB ?_)))); refine csr (wan (aS (br1 ?_))); exact ⟨true, rfl, ⟨fun _ i hi => hok i hi (by omega), fun _ => rfl⟩, D⟩
theorem rget_ok {X : List Nat} {w : World} {v : Value} {ls : List LB} (hs : RSl 2 RLB X w v ls) (hl : ls.length ≤ 1000000000) (n : ByteArray) : Calls Tryz.prog 43 #[v, .string n] w (Ret fun r w' => r = .string (iV ls n) ∧ Evo [] w w') := by
  obtain ⟨sa, sc, rfl, hlc, e1⟩ := hs; refine aU (N := 24) Tryz.func43 rfl rfl rfl ?_; refine csr (wan (aL (csr (wan (aZ ?_))))); refine cH (α := Nat) (0) (fun k => [(5, .int .i64 (k : Nat))]) [(0, _), (1, _)] (fun k wr => Evo [] w wr ∧ (k ≤ ls.length ∧ ∀ j (hj : j < ls.length), j < k → ¬ ls[j].1 = n)) (fun k => ls.length - k) ⟨rfl, trivial⟩ ⟨rfl, rfl, trivial⟩ ⟨Evo.refl _ _, ⟨Nat.zero_le _, fun j _ h => by omega⟩⟩ ?_; rintro k wr1 ⟨D, ⟨hk, hno⟩⟩; show CW _ _ _ _ [(5, _), (0, _), (1, _)] _; have A := (Evo.refl [] w).then D; refine aL (csr (aD (aD (aC (aP rfl Tryz.underlying42 rfl) ?_)))); refine aC (cE rfl rfl) ?_; refine wnn (bP rfl (fun F => ?_) (fun F => ?_))
  ·have hk' : k < ls.length := by omega
   obtain ⟨b1, o1, vs1, ha1, hb1, -, E, rfl, hz1, hz2⟩ := e1 k hk'; refine aR (aB (aL (aZ (csr (aD (aD (aC (aY (n := k) rfl rfl ha1 rfl bZ hk') ?_))))))); refine aC (aA rfl cD) (aC (aF rfl bR ((E.evo ((A).any X) hb1) 0 _ rfl)) (aD (aC (nW rfl rfl) ?_))); refine wnn (bP rfl (fun y => ?_) (fun y => ?_))
   ·refine csr (aD (aD (aC (aY (n := k) rfl rfl ha1 rfl bZ hk') ?_))); refine aC (aA rfl cT) (aC (aF rfl bR ((E.evo ((A).any X) hb1) 1 _ rfl)) (wan (aS (bA (aI (aI (bA (aI (br1 ?_))))))))); exact ⟨by rw [FK hk' y hno], A⟩
   refine aR (bC (aB (aQ (aD ?_)))); refine aC (aT rfl rfl (by omega) (by omega)) ?_; refine cL (aE (aM ?_)); refine ⟨k + 1, ?_, ⟨rfl, trivial⟩, ⟨rfl, rfl, trivial⟩, D, ?_⟩
   · omega
   exact ⟨by omega, fun j hj h => by by_cases e : j = k; (subst e; exact y); exact hno j hj (by omega)⟩
  refine bJ (bD (bD (bI (aB ?_)))); refine csr (wan (aS (br1 ?_))); exact ⟨by rw [FL (fun j hj => hno j hj (by omega))], A⟩
theorem JO {X : List Nat} {w : World} {v : Value} {ls : List LB} (hs : RSl 2 RLB X w v ls) (hl : ls.length ≤ 1000000000) : Calls Tryz.prog 42 #[v] w (Ret fun r w' => ∃ b, r = .bool b ∧ (b = true ↔ ∃ l, l ∈ ls ∧ (128 < l.1.size ∨ 512 < l.2.size)) ∧ Evo [] w w') := by
  obtain ⟨sa, sc, rfl, hlc, e1⟩ := hs; refine aU (N := 26) Tryz.func42 rfl rfl rfl ?_; refine csr (wan (aL (csr (wan (aZ ?_))))); refine cH (α := Nat) (0) (fun k => [(3, .int .i64 (k : Nat))]) [(0, _)] (fun k wr => Evo [] w wr ∧ (k ≤ ls.length ∧ ∀ j (hj : j < ls.length), j < k → ¬ (128 < ls[j].1.size ∨ 512 < ls[j].2.size))) (fun k => ls.length - k) ⟨rfl, trivial⟩ ⟨rfl, trivial⟩ ⟨Evo.refl _ _, ⟨Nat.zero_le _, fun j _ h => by omega⟩⟩ ?_; rintro k wr1 ⟨D, ⟨hk, hno⟩⟩; show CW _ _ _ _ [(3, _), (0, _)] _; have A := (Evo.refl [] w).then D; refine aL (csr (aD (aD (aC (aP rfl Tryz.underlying42 rfl) ?_)))); refine aC (cE rfl rfl) ?_; refine wnn (bP rfl (fun G => ?_) (fun G => ?_))
  ·have hk' : k < ls.length := by omega
   obtain ⟨b1, o1, vs1, ha1, hb1, -, E, rfl, hz1, hz2⟩ := e1 k hk'; refine aR (aB (aL (aZ (aL (eY (α := Bool) (fun z25 => [(25, .bool z25)]) [(0, _), (3, _)] (fun z25 wr => wr1 = wr ∧ (z25 = true ↔ (128 < ls[k].1.size ∨ 512 < ls[k].2.size))) ⟨rfl, rfl, trivial⟩ ?_ ?_)))))
   ·refine aQ (aD (aD (aC (aY (n := k) rfl rfl ha1 rfl bZ hk') ?_))); refine aC (aA rfl cD) (aC (aF rfl bR ((E.evo ((A).any X) hb1) 0 _ rfl)) (aC (dW rfl Tryz.underlying9 rfl) ?_)); refine aC (eQ rfl rfl) ?_; refine aD (bQ (t := 17) rfl (fun F => ?_) (fun F => ?_))
    ·refine bB (bB (bB (bB (bB (bB (bB (cF (aE (aM ?_))))))))); refine ⟨_, ⟨rfl, trivial⟩, ⟨rfl, rfl, trivial⟩, rfl, ?_⟩
     simp only [decide_eq_true_eq, Bool.false_eq_true, Bool.true_eq_false, true_iff, false_iff, eq_self, iff_true]; omega
    refine aW (aD (aW (aD (aW (aC (aY (n := k) rfl rfl ha1 rfl bZ hk') ?_))))); refine aW (aC (aA rfl cT) (aW (aC (aF rfl bR ((E.evo ((A).any X) hb1) 1 _ rfl)) (aW (aC (dW rfl Tryz.underlying9 rfl) ?_))))); refine aW (aC (eQ rfl rfl) ?_); refine bY (aE (aM ?_)); refine ⟨_, ⟨rfl, trivial⟩, ⟨rfl, rfl, trivial⟩, rfl, ?_⟩
    simp only [decide_eq_true_eq, Bool.false_eq_true, Bool.true_eq_false, true_iff, false_iff, eq_self, iff_true]; omega
   rintro z25 _ ⟨rfl, hz25⟩; refine aB ?_; show CW _ _ _ _ [(25, _), (0, _), (3, _)] _; refine dX rfl (fun y => ?_) (fun y => ?_)
   ·subst y; have hj25 := hz25.1 rfl; refine csr (wan (aS (bA (aI (aI (bA (aI (br1 ?_)))))))); exact ⟨true, rfl, ⟨fun _ => ⟨_, List.getElem_mem hk', hj25⟩, fun _ => rfl⟩, A⟩
   subst y
   have hj25 : ¬ (128 < ls[k].1.size ∨ 512 < ls[k].2.size) := fun h9 => by have := hz25.2 h9; cases this
   refine aR (bC (aB (aQ (aD ?_)))); refine aC (aT rfl rfl (by omega) (by omega)) ?_; refine cL (aE (aM ?_)); refine ⟨k + 1, ?_, ⟨rfl, trivial⟩, ⟨rfl, trivial⟩, D, ?_⟩
   · omega
   exact ⟨by omega, fun j hj h => by by_cases e : j = k; (subst e; exact hj25); exact hno j hj (by omega)⟩
  refine bJ (bD (bD (bI (aB ?_)))); refine csr (wan (aS (br1 ?_))); refine ⟨false, rfl, ⟨fun h => by (cases h), fun ⟨l, h1, h2⟩ => ?_⟩, A⟩; obtain ⟨j, hj, rfl⟩ := List.getElem_of_mem h1; exact absurd h2 (hno j hj (by omega))
theorem CS {X : List Nat} {w : World} {v : Value} {l : List Smp} (hs : RSl 3 RSmp X w v l) (hl : l.length ≤ 1000000000) : Calls Tryz.prog 40 #[v] w (Ret fun r w' => ∃ b, r = .bool b ∧ (b = true ↔ fU l) ∧ Evo [] w w') := by
  obtain ⟨sa, sc, rfl, hlc, e1⟩ := hs; refine aU (N := 42) Tryz.func40 rfl rfl rfl ?_; refine csr (wan (aL (csr (wan (aZ ?_))))); refine cH (α := Nat) (0) (fun k => [(3, .int .i64 (k : Nat))]) [(0, _)] (fun k wr => Evo [] w wr ∧ (k ≤ l.length ∧ ∀ i (h : i < l.length), i < k → CV l i h)) (fun k => l.length - k) ⟨rfl, trivial⟩ ⟨rfl, trivial⟩ ⟨Evo.refl _ _, ⟨Nat.zero_le _, fun j _ h => by omega⟩⟩ ?_; rintro k wr1 ⟨H, ⟨hk, hok⟩⟩; show CW _ _ _ _ [(3, _), (0, _)] _; have A := (Evo.refl [] w).then H; refine aL (csr (aD (aD (aC (aP rfl Tryz.underlying43 rfl) ?_)))); refine aC (cE rfl rfl) ?_; refine wnn (bP rfl (fun M => ?_) (fun M => ?_))
  ·have hk' : k < l.length := by omega
   obtain ⟨b1, o1, vs1, ha1, hb1, -, E, rfl, hz1⟩ := e1 k hk'; obtain ⟨b2, o2, vs2, ha2, hb2, -, O, rfl, hz2⟩ := e1 (k - 1) (by omega); refine aR (aB (aL (aZ (aL (eY (α := Bool) (fun z41 => [(41, .bool z41)]) [(0, _), (3, _)] (fun z41 wr => Evo [] wr1 wr ∧ (z41 = true ↔ (¬ (-62167219200000 ≤ l[k].t ∧ l[k].t ≤ 253402300799999) ∨ (0 < k ∧ l[k].t ≤ l[k - 1].t)))) ⟨rfl, rfl, trivial⟩ ?_ ?_)))))
   ·refine jR (by kernel_rfl) (by kernel_rfl) ?_; refine cC (fun _ y => aV rfl) ?_; refine cC (fun _ y => aV rfl) ?_; refine cC (fun _ y => aY (n := k) rfl rfl ha1 rfl eA hk') ?_; refine cC (fun _ y => aA rfl dG) ?_; refine cC (fun _ y => aF rfl eD ((E.evo (((A.then y)).any X) hb1) 0 _ rfl)) ?_; refine cC (fun _ y => cE rfl rfl) ?_; refine cC (fun _ y => aV rfl) ?_; refine mB (t := 16) rfl (fun I => ?_) (fun I => ?_)
    ·refine qln ?_; refine qln ?_; refine qln ?_; refine qln ?_; refine qln ?_; refine qln ?_; refine cC (fun _ y => dN rfl rfl) ?_; refine cC (fun _ y => aV rfl) ?_; refine qln ?_; refine qln ?_; refine qln ?_; refine eW rfl rfl rfl rfl rfl ?_; refine eW rfl rfl rfl rfl rfl ?_; refine eW rfl rfl rfl rfl rfl ?_; refine eW rfl rfl rfl rfl rfl ?_; refine eW rfl rfl rfl rfl rfl ?_; refine eW rfl rfl rfl rfl rfl ?_; refine eW rfl rfl rfl rfl rfl ?_; refine eW rfl rfl rfl rfl rfl ?_; refine eW rfl rfl rfl rfl rfl ?_; refine eW rfl rfl rfl rfl rfl ?_; refine eW rfl rfl rfl rfl rfl ?_; refine eW rfl rfl rfl rfl rfl ?_; refine qln ?_; refine cC (fun _ y => dN rfl rfl) ?_; refine jC (fun F y => aM ?_); refine ⟨_, ⟨rfl, trivial⟩, ⟨rfl, rfl, trivial⟩, ((Evo.refl [] wr1).then y), ?_⟩
     simp only [decide_eq_true_eq, Bool.false_eq_true, Bool.true_eq_false, true_iff, false_iff, eq_self, iff_true]; omega
    refine qlg ?_; refine cC (fun _ y => aV rfl) ?_; refine qlg ?_; refine cC (fun _ y => aV rfl) ?_; refine qlg ?_; refine cC (fun _ y => aY (n := k) rfl rfl ha1 rfl eA hk') ?_; refine qlg ?_; refine cC (fun _ y => aA rfl dG) ?_; refine qlg ?_; refine cC (fun _ y => aF rfl eD ((E.evo (((A.then y)).any X) hb1) 0 _ rfl)) ?_; refine qlg ?_; refine cC (fun _ y => eQ rfl rfl) ?_; refine cC (fun _ y => dO rfl rfl) ?_; refine cC (fun _ y => aV rfl) ?_; refine mB (t := 24) rfl (fun J => ?_) (fun J => ?_)
    ·refine qln ?_; refine qln ?_; refine qln ?_; refine eW rfl rfl rfl rfl rfl ?_; refine eW rfl rfl rfl rfl rfl ?_; refine eW rfl rfl rfl rfl rfl ?_; refine eW rfl rfl rfl rfl rfl ?_; refine eW rfl rfl rfl rfl rfl ?_; refine eW rfl rfl rfl rfl rfl ?_; refine eW rfl rfl rfl rfl rfl ?_; refine eW rfl rfl rfl rfl rfl ?_; refine eW rfl rfl rfl rfl rfl ?_; refine eW rfl rfl rfl rfl rfl ?_; refine eW rfl rfl rfl rfl rfl ?_; refine eW rfl rfl rfl rfl rfl ?_; refine qln ?_; refine cC (fun _ y => dN rfl rfl) ?_; refine jC (fun F y => aM ?_); refine ⟨_, ⟨rfl, trivial⟩, ⟨rfl, rfl, trivial⟩, ((Evo.refl [] wr1).then y), ?_⟩
     simp only [decide_eq_true_eq, Bool.false_eq_true, Bool.true_eq_false, true_iff, false_iff, eq_self, iff_true]; omega
    refine qlg ?_; refine cC (fun _ y => aV rfl) ?_; refine qlg ?_; refine cC (fun _ y => eQ rfl rfl) ?_; refine qlg ?_; refine cC (fun _ y => aV rfl) ?_; refine mB (t := 27) rfl (fun K => ?_) (fun K => ?_)
    ·refine qlg ?_; refine cC (fun _ y => aV rfl) ?_; refine qlg ?_; refine cC (fun _ y => aV rfl) ?_; refine qlg ?_; refine cC (fun _ y => aX rfl rfl (by omega) (by omega)) ?_; refine qlg ?_; refine cC (fun _ y => aY (n := k - 1) rfl rfl ha2 (by omega) eA (by omega)) ?_; refine qlg ?_; refine cC (fun _ y => aA rfl dG) ?_; refine qlg ?_; refine cC (fun _ y => aF rfl eD ((O.evo (((A.then y)).any X) hb2) 0 _ rfl)) ?_; refine qlg ?_; refine cC (fun _ y => aV rfl) ?_; refine qlg ?_; refine cC (fun _ y => aV rfl) ?_; refine qlg ?_; refine cC (fun _ y => aY (n := k) rfl rfl ha1 rfl eA hk') ?_; refine qlg ?_; refine cC (fun _ y => aA rfl dG) ?_; refine qlg ?_; refine cC (fun _ y => aF rfl eD ((E.evo (((A.then y)).any X) hb1) 0 _ rfl)) ?_; refine qlg ?_; refine cC (fun _ y => fF rfl rfl) ?_; refine qlg ?_; refine cC (fun _ y => dN rfl rfl) ?_; refine cC (fun _ y => dO rfl rfl) ?_; refine jC (fun F y => aM ?_); refine ⟨_, ⟨rfl, trivial⟩, ⟨rfl, rfl, trivial⟩, ((Evo.refl [] wr1).then y), ?_⟩
     simp only [decide_eq_true_eq, Bool.false_eq_true, Bool.true_eq_false, true_iff, false_iff, eq_self, iff_true]; omega
    refine qln ?_; refine qln ?_; refine qln ?_; refine qln ?_; refine qln ?_; refine qln ?_; refine qln ?_; refine qln ?_; refine qln ?_; refine qln ?_; refine qln ?_; refine qln ?_; refine qlg ?_; refine cC (fun _ y => dO rfl rfl) ?_; refine cC (fun _ y => dO rfl rfl) ?_; refine jC (fun F y => aM ?_); refine ⟨_, ⟨rfl, trivial⟩, ⟨rfl, rfl, trivial⟩, ((Evo.refl [] wr1).then y), ?_⟩
    simp only [decide_eq_true_eq, Bool.false_eq_true, Bool.true_eq_false, true_iff, false_iff, eq_self, iff_true]; omega
   rintro z41 U ⟨G, hz41⟩; refine aB ?_; show CW _ _ _ _ [(41, _), (0, _), (3, _)] _; have L := A.then G; refine dX rfl (fun D => ?_) (fun D => ?_)
   ·subst D; have hj41 := hz41.1 rfl; refine csr (wan (aS (bA (aI (aI (bA (aI (br1 ?_)))))))); refine ⟨false, rfl, ⟨fun h => by (cases h), fun h => ?_⟩, L⟩; have h9 := h k hk'
    rcases hj41 with h8 | ⟨h8, h7⟩
    · exact absurd h9.1 h8
    · have := h9.2 (k - 1) (by omega) (by omega); omega
   subst D
   have hj41 : ¬ (¬ (-62167219200000 ≤ l[k].t ∧ l[k].t ≤ 253402300799999) ∨ (0 < k ∧ l[k].t ≤ l[k - 1].t)) := fun h9 => by have := hz41.2 h9; cases this
   refine aR (bC (aB (aQ (aD ?_)))); refine aC (aT rfl rfl (by omega) (by omega)) ?_; refine cL (aE (aM ?_)); refine ⟨k + 1, ?_, ⟨rfl, trivial⟩, ⟨rfl, trivial⟩, (H.then G), ?_⟩
   · omega
   refine ⟨by omega, fun i hi hik => ?_⟩
   by_cases e : i < k
   · exact hok i hi e
   · obtain rfl : i = k := by omega
     exact ⟨by omega, fun j hj e2 => by subst e2; simp only [Nat.add_sub_cancel] at hj41; omega⟩
  refine bJ (bD (bD (bI (aB ?_)))); refine csr (wan (aS (br1 ?_))); exact ⟨true, rfl, ⟨fun _ i hi => hok i hi (by omega), fun _ => rfl⟩, A⟩
theorem yH : dC Tryz.prog 40 := ⟨_, Tryz.func40, by kernel_rfl, by kernel_rfl⟩
theorem yG : dC Tryz.prog 41 := ⟨_, Tryz.func41, by kernel_rfl, by kernel_rfl⟩
theorem yF : dC Tryz.prog 42 := ⟨_, Tryz.func42, by kernel_rfl, by kernel_rfl⟩
theorem yE : dC Tryz.prog 43 := ⟨_, Tryz.func43, by kernel_rfl, by kernel_rfl⟩
theorem yD : dC Tryz.prog 44 := ⟨_, Tryz.func44, by kernel_rfl, by kernel_rfl⟩
theorem DY {X : List Nat} {w : World} {lv pv : Value} {ls : List LB} {ps : List Smp} (h1 : RSl 2 RLB X w lv ls) (h2 : RSl 3 RSmp X w pv ps) (hl1 : ls.length ≤ 1000000000) (hl2 : ps.length ≤ 1000000000) : Calls Tryz.prog 23 #[.agg #[lv, pv], .bool true] w (Ret fun r w' => r = iv3 (eF ls) ∧ Evo [] w w') := by
  have hsz := zY h1; have h10 := h1; have o1 := h1.one; have o2 := h2.one; obtain ⟨la, lc, rfl, hlc, -⟩ := h1; obtain ⟨pa, pc, rfl, hpc, -⟩ := h2; refine aU (N := 35) Tryz.func23 rfl rfl rfl ?_; refine csr (dZ rfl rfl fun b2 w1 I a1 a2 => ?_); have a3 := a1; have O := (Evo.refl [] w).then a2; refine wan (aL (csr (aD (aC (eI rfl) ?_)))); refine wnn (cY rfl ?_); refine aR (aB (aL (aL (eY (α := Bool) (fun z21 => [(21, .bool z21)]) [(2, _), (4, _)] (fun z21 wr => Evo [] w1 wr ∧ (z21 = true ↔ (¬ (kY ls ∧ ls.length ≤ 32)))) ⟨rfl, rfl, trivial⟩ ?_ ?_))))
  ·refine aQ (wfl rfl bX rfl cG I rfl (aG (vs := [_]) yG rfl (GP (h10.evo RLB.pers ((O).any X)) hl1) rfl ?_)); rintro _ w7 ⟨bv, rfl, hbv, U⟩; have J := (Evo.refl [] w1).then U; refine aC (eI rfl) ?_; refine aD (hX (t := 16) rfl (fun y => ?_) (fun y => ?_))
   ·refine bB (bB (bB (bB (cF (aE (aM ?_)))))); refine ⟨_, ⟨rfl, trivial⟩, ⟨rfl, rfl, trivial⟩, J, ?_⟩
    rw [← hbv]; first | (simp at y; simp [y]; done) | (simp at y; simp [y]; omega)
   refine aW (aC (aA rfl bX) (aW (aC (aF rfl cG (aK (U.blk0 I) rfl)) (aW (aC (aP rfl Tryz.underlying42 rfl) ?_))))); refine aW (aC (eQ rfl rfl) ?_); refine bY (aE (aM ?_)); refine ⟨_, ⟨rfl, trivial⟩, ⟨rfl, rfl, trivial⟩, J, ?_⟩
   rw [← hbv]; first | (simp at y; simp [y]; done) | (simp at y; simp [y]; omega)
  rintro z21 a4 ⟨D, hz21⟩; refine aB ?_; show CW _ _ _ _ [(21, _), (2, _), (4, _)] _; have E := O.then D; refine dX rfl (fun F => ?_) (fun F => ?_)
  ·subst F; have hj21 := hz21.1 rfl; refine csr (wan (aS (aI (br1 ?_)))); exact ⟨congrArg iv3 (sH hj21).symm, E⟩
  subst F
  have hj21 : ¬ (¬ (kY ls ∧ ls.length ≤ 32)) := fun h9 => by have := hz21.2 h9; cases this
  refine aR (aB (aL (csr (wfl rfl bX rfl cG (D.blk0 I) rfl (aG (vs := [_]) yF rfl (JO (h10.evo RLB.pers ((E).any X)) hl1) rfl ?_))))); rintro _ a5 ⟨bl, rfl, hbl, K⟩; have G := E.then K; refine wnn (dX rfl (fun A => ?_) (fun A => ?_))
  ·refine csr (wan (aS (aI (br1 ?_)))); exact ⟨congrArg iv3 (zQ (Classical.not_not.1 hj21) (hbl.1 A)).symm, G⟩
  refine aR (aB (csr (wfl rfl bX rfl cG (K.blk0 (D.blk0 I)) rfl (aG (vs := [_, _]) yE rfl (rget_ok (h10.evo RLB.pers ((G).any X)) hl1 kX) rfl ?_)))); rintro _ L ⟨rfl, V⟩; refine wan (aL (aL (eY (α := Bool) (fun z34 => [(34, .bool z34)]) [(4, _)] (fun z34 wr => Evo [] L wr ∧ (z34 = true ↔ (¬ iV ls kX = ByteArray.mk #[] ∧ ¬ eV (iV ls kX)))) ⟨rfl, trivial⟩ ?_ ?_)))
  ·refine aQ (aD (aC (iP rfl rfl) ?_)); refine aD (bQ (t := 30) rfl (fun W => ?_) (fun W => ?_))
   ·refine aW (aD (aW ?_))
    refine aG (vs := [_]) yD rfl (wJ (iV ls kX) (by have := vN (fun l h => (hsz l h).2) kX; omega)) rfl ?_
    rintro _ a6 ⟨rfl, Y⟩; refine aW (aC (eI rfl) ?_); refine cF (aE (aM ?_)); refine ⟨_, ⟨rfl, trivial⟩, ⟨rfl, trivial⟩, ((Evo.refl [] L).then Y), ?_⟩
    first | (simp; assumption) | simp_all
   refine bB (bB (bB (bY (aE (aM ?_))))); refine ⟨_, ⟨rfl, trivial⟩, ⟨rfl, trivial⟩, (Evo.refl [] L), ?_⟩
   first | (simp; assumption) | simp_all
  rintro z34 a7 ⟨a0, hz34⟩; refine aB ?_; show CW _ _ _ _ [(34, _), (4, _)] _; have M := (G.then V).then a0; refine dX rfl (fun H => ?_) (fun H => ?_)
  ·subst H; have hj34 := hz34.1 rfl; refine csr (wan (aS (aI (br1 ?_))))
   exact ⟨congrArg iv3 (sG (Classical.not_not.1 hj21) (fun h => by have := hbl.2 h; rw [this] at A; cases A) hj34).symm, M⟩
  subst H
  have hj34 : ¬ (¬ iV ls kX = ByteArray.mk #[] ∧ ¬ eV (iV ls kX)) := fun h9 => by have := hz34.2 h9; cases this
  refine aR (aB (csr (wan (aS (br1 ?_)))))
  exact ⟨congrArg iv3 (oE (Classical.not_not.1 hj21) (fun h => by have := hbl.2 h; rw [this] at A; cases A) hj34).symm, M⟩
theorem DZ {X : List Nat} {w : World} {lv pv : Value} {ls : List LB} {ps : List Smp} (h1 : RSl 2 RLB X w lv ls) (h2 : RSl 3 RSmp X w pv ps) (hl1 : ls.length ≤ 1000000000) (hl2 : ps.length ≤ 1000000000) : Calls Tryz.prog 23 #[.agg #[lv, pv], .bool false] w (Ret fun r w' => ∃ e : Int, r = iv3 e ∧ (e = 0 ∧ fU ps ∨ e = 192 ∧ ¬ fU ps) ∧ Evo [] w w') := by
  have h20 := h2; have o1 := h1.one; have o2 := h2.one; obtain ⟨la, lc, rfl, hlc, -⟩ := h1; obtain ⟨pa, pc, rfl, hpc, -⟩ := h2; refine aU (N := 35) Tryz.func23 rfl rfl rfl ?_; refine csr (dZ rfl rfl fun b2 w1 E F G => ?_); have H := F; have A := (Evo.refl [] w).then G; refine wan (aL (csr (aD (aC (eI rfl) ?_)))); refine wnn (eX rfl ?_); refine aL (csr (wfl rfl dP rfl dT E rfl (aG (vs := [_]) yH rfl (CS (h20.evo RSmp.pers ((A).any X)) hl2) rfl ?_))); rintro _ w7 ⟨bp, rfl, hbp, I⟩; have D := A.then I; refine aC (eI rfl) ?_; refine wnn (dX rfl (fun y => ?_) (fun y => ?_))
  ·refine csr (wan (aS (aI (aI (br1 ?_)))))
   exact ⟨192, rfl, .inr ⟨rfl, fun h => by have := hbp.2 h; simp [this] at y⟩, D⟩
  refine aR (aB (csr (wan (aS (aI (br1 ?_)))))); exact ⟨0, rfl, .inl ⟨rfl, hbp.1 (by simpa using y)⟩, D⟩
def fD (ds : List SD) (x : Nat) : List LB := (ds.getD x ([], [])).1
theorem gJ {ds : List SD} {x : Nat} (h : x < ds.length) : fD ds x = ds[x].1 := by unfold fD; simp [h]
def lt2 (ds : List SD) (x y : Nat) : Prop := dI (fD ds x) (fD ds y) < 0 ∨ (dI (fD ds x) (fD ds y) = 0 ∧ x < y)
theorem pU {ds : List SD} {x y z : Nat} (h1 : lt2 ds x y) (h2 : lt2 ds y z) : lt2 ds x z := by
  unfold lt2 at *
  rcases h1 with h1 | ⟨h1, h3⟩
  · rcases h2 with h2 | ⟨h2, h4⟩
    · exact .inl (mS _ _ _ h1 h2)
    · rw [(gI _ _).1 h2] at h1; exact .inl h1
  · rw [(gI _ _).1 h1]
    rcases h2 with h2 | ⟨h2, h4⟩
    · exact .inl h2
    · exact .inr ⟨h2, by omega⟩
theorem mV {ds : List SD} {x : Nat} (h : lt2 ds x x) : False := by
  rcases h with h | ⟨-, h⟩
  · rw [(gI _ _).2 rfl] at h; omega
  · omega
structure Rk (ds : List SD) (a b : Nat) (l : List Nat) : Prop where
  pw : l.Pairwise (lt2 ds)
  mem : ∀ x, x ∈ l ↔ a ≤ x ∧ x < b
  len : l.length = b - a
structure Mg (ds : List SD) (l1 l2 : List Nat) (i j : Nat) (l : List Nat) : Prop where
  pw : l.Pairwise (lt2 ds)
  mem : ∀ x, x ∈ l ↔ x ∈ l1.take i ∨ x ∈ l2.take j
  up : ∀ x, x ∈ l → ∀ y, y ∈ l1.drop i ∨ y ∈ l2.drop j → lt2 ds x y
  len : l.length = i + j
theorem Mg.nil (ds : List SD) (l1 l2 : List Nat) : Mg ds l1 l2 0 0 [] := ⟨List.Pairwise.nil, fun x => by simp, fun x h => by simp at h, rfl⟩
theorem rR {ds : List SD} {l : List Nat} (h : l.Pairwise (lt2 ds)) {i : Nat} (hi : i < l.length) : ∀ y, y ∈ l.drop (i + 1) → lt2 ds l[i] y := fun y hy => by
  have h1 : (l.drop i).Pairwise (lt2 ds) := h.drop
  rw [List.drop_eq_getElem_cons hi] at h1
  exact (List.pairwise_cons.1 h1).1 y hy
theorem nF {l : List Nat} {i y : Nat} (h : y ∈ l.drop (i + 1)) : y ∈ l.drop i := by
  rw [← List.drop_drop] at h
  exact List.mem_of_mem_drop h
theorem Mg.left {ds : List SD} {l1 l2 : List Nat} {i j : Nat} {l : List Nat} (h : Mg ds l1 l2 i j l) (h1 : l1.Pairwise (lt2 ds)) (h2 : l2.Pairwise (lt2 ds)) (hi : i < l1.length) (hlr : ∀ x, x ∈ l1 → ∀ y, y ∈ l2 → x < y) (hc : ∀ hj : j < l2.length, dI (fD ds l1[i]) (fD ds l2[j]) ≤ 0) : Mg ds l1 l2 (i + 1) j (l ++ [l1[i]]) := by
  have hx : l1[i] ∈ l1.drop i := by rw [List.drop_eq_getElem_cons hi]; exact List.mem_cons_self
  have hy2 : ∀ y, y ∈ l2.drop j → lt2 ds l1[i] y := fun y hy => by
    have hj : j < l2.length := by
      rcases Nat.lt_or_ge j l2.length with h9 | h9
      · exact h9
      · rw [List.drop_of_length_le h9] at hy; cases hy
    have h3 : lt2 ds l1[i] l2[j] := by
      have := hc hj
      by_cases e : dI (fD ds l1[i]) (fD ds l2[j]) < 0
      · exact .inl e
      · exact .inr ⟨by omega, hlr _ (List.getElem_mem hi) _ (List.getElem_mem hj)⟩
    rw [List.drop_eq_getElem_cons hj] at hy
    rcases List.mem_cons.1 hy with rfl | hy
    · exact h3
    · exact pU h3 (rR h2 hj y hy)
  refine ⟨?_, fun x => ?_, fun x hx1 y hy => ?_, by rw [List.length_append, h.len]; simp only [List.length_cons, List.length_nil]; omega⟩
  · rw [List.pairwise_append]
    exact ⟨h.pw, List.pairwise_singleton _ _, fun x hx1 y hy => by rw [List.mem_singleton.1 hy]; exact h.up x hx1 _ (.inl hx)⟩
  · rw [List.mem_append, h.mem, List.take_succ_eq_append_getElem hi, List.mem_append]
    constructor
    · rintro ((h3 | h3) | h3)
      · exact .inl (.inl h3)
      · exact .inr h3
      · exact .inl (.inr h3)
    · rintro ((h3 | h3) | h3)
      · exact .inl (.inl h3)
      · exact .inr h3
      · exact .inl (.inr h3)
  · rcases List.mem_append.1 hx1 with hx1 | hx1
    · exact h.up x hx1 y (hy.imp nF id)
    · rw [List.mem_singleton.1 hx1]
      rcases hy with hy | hy
      · exact rR h1 hi y hy
      · exact hy2 y hy
theorem Mg.right {ds : List SD} {l1 l2 : List Nat} {i j : Nat} {l : List Nat} (h : Mg ds l1 l2 i j l) (h1 : l1.Pairwise (lt2 ds)) (h2 : l2.Pairwise (lt2 ds)) (hj : j < l2.length) (hc : ∀ hi : i < l1.length, ¬ dI (fD ds l1[i]) (fD ds l2[j]) ≤ 0) : Mg ds l1 l2 i (j + 1) (l ++ [l2[j]]) := by
  have hx : l2[j] ∈ l2.drop j := by rw [List.drop_eq_getElem_cons hj]; exact List.mem_cons_self
  have hy1 : ∀ y, y ∈ l1.drop i → lt2 ds l2[j] y := fun y hy => by
    have hi : i < l1.length := by
      rcases Nat.lt_or_ge i l1.length with h9 | h9
      · exact h9
      · rw [List.drop_of_length_le h9] at hy; cases hy
    have h3 : lt2 ds l2[j] l1[i] := .inl ((oI _ _).2 (by have := hc hi; omega))
    rw [List.drop_eq_getElem_cons hi] at hy
    rcases List.mem_cons.1 hy with rfl | hy
    · exact h3
    · exact pU h3 (rR h1 hi y hy)
  refine ⟨?_, fun x => ?_, fun x hx1 y hy => ?_, by rw [List.length_append, h.len]; simp only [List.length_cons, List.length_nil]; omega⟩
  · rw [List.pairwise_append]
    exact ⟨h.pw, List.pairwise_singleton _ _, fun x hx1 y hy => by rw [List.mem_singleton.1 hy]; exact h.up x hx1 _ (.inr hx)⟩
  · rw [List.mem_append, h.mem, List.take_succ_eq_append_getElem hj, List.mem_append]
    constructor
    · rintro ((h3 | h3) | h3)
      · exact .inl h3
      · exact .inr (.inl h3)
      · exact .inr (.inr h3)
    · rintro (h3 | h3 | h3)
      · exact .inl (.inl h3)
      · exact .inl (.inr h3)
      · exact .inr h3
  · rcases List.mem_append.1 hx1 with hx1 | hx1
    · exact h.up x hx1 y (hy.imp id nF)
    · rw [List.mem_singleton.1 hx1]
      rcases hy with hy | hy
      · exact hy1 y hy
      · exact rR h2 hj y hy
theorem Mg.done {ds : List SD} {l1 l2 l : List Nat} {a m b : Nat} (h : Mg ds l1 l2 l1.length l2.length l) (h1 : Rk ds a m l1) (h2 : Rk ds m b l2) (ham : a ≤ m) (hmb : m ≤ b) : Rk ds a b l := by
  refine ⟨h.pw, fun x => ?_, by rw [h.len, h1.len, h2.len]; omega⟩
  rw [h.mem, List.take_length, List.take_length, h1.mem, h2.mem]
  omega
theorem rk_few {ds : List SD} {a b : Nat} (h : b - a < 2) : Rk ds a b (List.range' a (b - a)) := by
  refine ⟨?_, fun x => ?_, List.length_range'⟩
  · obtain e | e : b - a = 0 ∨ b - a = 1 := by omega
    · rw [e]; exact List.Pairwise.nil
    · rw [e]; exact List.pairwise_singleton _ _
  · rw [List.mem_range'_1]; omega
theorem IX {ds : List SD} {l : List Nat} {n : Nat} (h : Rk ds 0 n l) {q : Nat} (hq : q < l.length) : (∃ y, y < l[q] ∧ fD ds y = fD ds l[q]) ↔ ∃ _ : 1 ≤ q, dI (fD ds (l[q - 1]'(by omega))) (fD ds l[q]) = 0 := by
  have hpw := List.pairwise_iff_getElem.1 h.pw
  have hxn := ((h.mem _).1 (List.getElem_mem hq)).2
  constructor
  · rintro ⟨y, hy, he⟩
    have hyl : y ∈ l := (h.mem y).2 ⟨Nat.zero_le _, by omega⟩
    obtain ⟨p, hp, rfl⟩ := List.getElem_of_mem hyl
    have hlt : lt2 ds l[p] l[q] := .inr ⟨(gI _ _).2 he, hy⟩
    have hpq : p < q := by
      rcases Nat.lt_trichotomy p q with h1 | h1 | h1
      · exact h1
      · subst h1; exact (mV hlt).elim
      · exact (mV (pU hlt (hpw q p hq hp h1))).elim
    refine ⟨by omega, ?_⟩
    have h2 : lt2 ds l[q - 1] l[q] := hpw (q - 1) q (by omega) hq (by omega)
    by_cases e : p = q - 1
    · subst e; exact (gI _ _).2 he
    · have h1 : lt2 ds l[p] l[q - 1] := hpw p (q - 1) hp (by omega) (by omega)
      rcases h1 with h1 | ⟨h1, -⟩
      · rcases h2 with h2 | ⟨h2, -⟩
        · have := mS _ _ _ h1 h2
          rw [(gI _ _).2 he] at this; omega
        · exact h2
      · rw [← (gI _ _).1 h1]; exact (gI _ _).2 he
  · rintro ⟨h1, he⟩
    have h2 : lt2 ds l[q - 1] l[q] := hpw (q - 1) q (by omega) hq (by omega)
    rcases h2 with h2 | ⟨-, h2⟩
    · omega
    · exact ⟨l[q - 1], h2, (gI _ _).1 he⟩
theorem lQ : dC Tryz.prog 38 := ⟨_, Tryz.func38, by kernel_rfl, by kernel_rfl⟩
theorem pF : dC Tryz.prog 39 := ⟨_, Tryz.func39, by kernel_rfl, by kernel_rfl⟩
abbrev ivn (x : Nat) : Value := .int .i64 (x : Nat)
def RIx : Rel Nat := fun _ _ vs n => vs = [ivn n]
theorem DD {X : List Nat} {w : World} {e : TypeId} {a : Option Addr} {n c : Nat} {l : List Nat} {ob : Option Nat} (h : OwnS w e 1 a n c (l.map ivn) ob) (hl : l.length = n) (hx : ∀ g, ob = some g → g ∉ X) : RSl 1 RIx X w (.slice a n c) l :=
  RSl.ofOwn (rows := l.map fun x => [ivn x]) (by rw [show (l.map fun x => [ivn x]).flatten = l.map ivn from by clear h hl; induction l with | nil => rfl | cons x l ih => simp [ih]]; exact h)
    ⟨by simp, fun k h1 h2 => by simp only [List.getElem_map]; exact ⟨rfl, rfl⟩⟩ hl hx
def GC (ds : List SD) (a b : Nat) (w : World) (r : Value) (w' : World) : Prop := ∃ pa pc l ob, r = .slice pa (List.length (α := Nat) l) pc ∧ OwnS w' 3 1 pa l.length pc (l.map ivn) ob ∧ Ge w ob ∧ Rk ds a b l ∧ Evo [] w w'
theorem CY (a n : Nat) : List.range' a (n + 1) = List.range' a n ++ [a + n] := by
  rw [List.range'_concat]; simp
structure MgG where
  i : Nat
  j : Nat
  n : Nat
  pa : Option Addr
  pc : Nat
  o : Option Nat
  l : List Nat
structure FwG where
  i : Nat
  n : Nat
  pa : Option Addr
  pc : Nat
  o : Option Nat
theorem AB {X : List Nat} {ds : List SD} (hsm : iL ds) (hl : ds.length ≤ 1000) (m : Nat) (ih : ∀ a b, a ≤ b → b ≤ ds.length → b - a < m → ∀ {w : World} {v : Value}, RSl 2 RSer X w v ds → Calls Tryz.prog 38 #[.agg #[v], ivn a, ivn b] w (Ret (GC ds a b w))) (a b : Nat) (hab : a ≤ b) (hb : b ≤ ds.length) (hm : b - a = m) {w : World} {v : Value} (hs : RSl 2 RSer X w v ds) : Calls Tryz.prog 38 #[.agg #[v], ivn a, ivn b] w (Ret (GC ds a b w)) := by
  have c0 := hs; obtain ⟨sa, sc, rfl, hlc, e1⟩ := hs; refine aU (N := 102) Tryz.func38 rfl rfl rfl ?_; refine csr (dZ rfl rfl fun b3 w1 a8 d1 d2 => ?_); have d3 := d1; have a5 := (Evo.refl [] w).then d2; refine wan (csr (wan (aL (csr (aD (aD ?_)))))); refine aC (aX rfl rfl (by omega) (by omega)) ?_; refine aC (cE rfl rfl) ?_; refine wnn (bP rfl (fun c2 => ?_) (fun c2 => ?_))
  ·refine aL (csr (aD (wan (aZ (cH (α := FwG) (⟨0, 0, none, 0, none⟩) (fun x => [(8, .int .i64 ((a + x.i : Nat) : Int)), (7, .slice x.pa x.n x.pc)]) [(1, _), (2, _), (3, _), (6, _)] (fun x wr => Evo [] w wr ∧ (x.i ≤ b - a ∧ x.n = x.i ∧ OwnS wr 3 1 x.pa x.n x.pc ((List.range' a x.i).map ivn) x.o ∧ Ge w x.o)) (fun x => b - a - x.i) ⟨rfl, rfl, trivial⟩ ⟨rfl, rfl, rfl, rfl, trivial⟩ ⟨a5, ⟨Nat.zero_le _, rfl, OwnS.nil _ _ _, Ge.nil _⟩⟩ ?_))))); rintro ⟨i, n, pa, pc, o⟩ wr7 ⟨a9, ⟨hi, hn, hO, hGf⟩⟩; show CW _ _ _ _ [(8, .int .i64 ((a + i : Nat) : Int)), (7, .slice pa n pc), (1, _), (2, _), (3, _), (6, _)] _
   try dsimp only at hi hn hO hGf
   replace hn : i = n := Eq.symm hn; subst hn; refine aL (csr (aD (aD (aC (cE rfl rfl) ?_)))); refine wnn (bP rfl (fun c3 => ?_) (fun c3 => ?_))
   ·refine aR (aB (aL (aZ (aQ (aD (aD (cK (vs := [_]) rfl fY rfl rfl rfl rfl fun b9 e3 c4 d8 Y => ?_))))))); refine dB rfl rfl rfl rfl gM (hO.evo0 Y) (Src.ofOwn c4 ⟨by first | rfl | assumption, trivial⟩) (by omega) fun pax27 pcx27 e4 obx27 hOx27 c5 hob24 => ?_; refine cL (aE (bC (aB (aQ (aD ?_))))); refine aC (aT rfl rfl (by omega) (by omega)) ?_; refine cL (aE (aM ?_)); refine ⟨⟨i + 1, i + 1, pax27, pcx27, obx27⟩, ?_, ⟨rfl, rfl, trivial⟩, ⟨rfl, rfl, rfl, rfl, trivial⟩, ((a9.then Y).step c5 hGf.mem), ?_⟩
    · (try dsimp only); omega
    try dsimp only
    have H := hOx27; refine ⟨by omega, rfl, ?_, (hGf.app (a9.then Y) hob24)⟩; rw [CY, List.map_append]; exact H
   refine bJ (bD (bD (bI (aB ?_)))); refine csr (aD (wan (aS (aI (br1 ?_)))))
   obtain rfl : i = b - a := by omega
   have H := hO
   exact ⟨pa, pc, List.range' a (b - a), o, by rw [List.length_range'], by rw [List.length_range']; exact H, hGf, rk_few (by omega), a9⟩
  refine aR (aB (csr (aD (aD ?_)))); refine aC (aT rfl rfl (by omega) (by omega)) ?_
  refine aC (kE (m := a + b) (n := 2) rfl rfl (by omega) (by omega) (by omega) (by simp [IntKind.max, IntKind.signed, IntKind.bits]; omega)) ?_
  refine wan (csr (aC (cV rfl dJ cJ a8 rfl) (aD (aD ?_)))); refine aG (vs := [_, _, _]) lQ rfl (ih a ((a + b) / 2) (by omega) (by omega) (by omega) (c0.evo RSer.pers ((a5).any X))) rfl ?_; rintro _ e5 ⟨pa1, pc1, l1, ob1, rfl, d4, e6, J, L⟩; refine wan (csr (aC (cV rfl dJ cJ (L.blk0 a8) rfl) (aD (aD ?_)))); refine aG (vs := [_, _, _]) lQ rfl (ih ((a + b) / 2) b (by omega) (by omega) (by omega) (c0.evo RSer.pers (((a5.then L)).any X))) rfl ?_; rintro _ c1 ⟨pa2, pc2, l2, ob2, rfl, d5, e7, K, a0⟩; refine wan (aL ?_); have d6 := DD (X := []) (d4.evo0 a0) rfl (by simp); have d7 := DD (X := []) d5 rfl (by simp); obtain ⟨xa1, xc1, xe1, -, eL1⟩ := id d6; simp only [Value.slice.injEq] at xe1; obtain ⟨rfl, -, rfl⟩ := xe1; obtain ⟨xa2, xc2, xe2, -, eL2⟩ := id d7; simp only [Value.slice.injEq] at xe2; obtain ⟨rfl, -, rfl⟩ := xe2
  have hlr : ∀ x, x ∈ l1 → ∀ y, y ∈ l2 → x < y := fun x hx y hy => by have := (J.mem x).1 hx; have := (K.mem y).1 hy; omega
  have hk1 := J.len; have hk2 := K.len
  have gd1 : ∀ {i : Nat} (h : i < l1.length), l1.getD i 0 = l1[i] := fun h => by simp [h]
  have gd2 : ∀ {j : Nat} (h : j < l2.length), l2.getD j 0 = l2[j] := fun h => by simp [h]
  refine aQ (cL (wan (aL (aZ (cH (α := MgG) (⟨0, 0, 0, none, 0, none, []⟩) (fun x => [(12, .int .i64 (x.i : Nat)), (13, .int .i64 (x.j : Nat)), (7, .slice x.pa x.n x.pc)]) [(3, _), (6, _), (10, _), (11, _)] (fun x wr => Evo [] w wr ∧ (x.i ≤ l1.length ∧ x.j ≤ l2.length ∧ Mg ds l1 l2 x.i x.j x.l ∧ x.l.length = x.n ∧ OwnS wr 3 1 x.pa x.n x.pc (x.l.map ivn) x.o ∧ wr.heap[b3]? = some (.cells #[.slice sa ds.length sc] 26 (0, 0)) ∧ Evo [] c1 wr ∧ Ge w x.o ∧ Ge c1 x.o ∧ Apart (some b3) x.o)) (fun x => (l1.length - x.i) + (l2.length - x.j)) ⟨rfl, rfl, rfl, trivial⟩ ⟨rfl, rfl, rfl, rfl, trivial⟩ ⟨((a5.then L).then a0), ⟨Nat.zero_le _, Nat.zero_le _, Mg.nil _ _ _, rfl, OwnS.nil _ _ _, (a0.blk0 (L.blk0 a8)), Evo.refl [] _, Ge.nil _, Ge.nil _, Apart.nil _⟩⟩ ?_))))); rintro ⟨i, j, n, pa, pc, o, l⟩ wr43 ⟨M, ⟨hi, hj, hM, hn, hO, W, hPm, hGm1, hGm2, hAm⟩⟩; show CW _ _ _ _ [(12, .int .i64 (i : Nat)), (13, .int .i64 (j : Nat)), (7, .slice pa n pc), (3, _), (6, _), (10, _), (11, _)] _
  try dsimp only at hi hj hM hn hO W hPm hGm1 hGm2 hAm
  refine aL (aL (eY (α := Bool) (fun z50 => [(50, .bool z50)]) [(3, _), (6, _), (7, _), (10, _), (11, _), (12, _), (13, _)] (fun z50 wr => wr43 = wr ∧ (z50 = true ↔ (i < l1.length ∨ j < l2.length))) ⟨rfl, rfl, rfl, rfl, rfl, rfl, rfl, trivial⟩ ?_ ?_))
  ·refine aQ (aD (aD (aC (aP rfl Tryz.underlying96 rfl) ?_))); refine aC (cE rfl rfl) ?_; refine aD (bQ (t := 45) rfl (fun c6 => ?_) (fun c6 => ?_))
   ·refine bB (bB (bB (bB (cF (aE (aM ?_)))))); refine ⟨_, ⟨rfl, trivial⟩, ⟨rfl, rfl, rfl, rfl, rfl, rfl, rfl, trivial⟩, rfl, ?_⟩
    simp only [decide_eq_true_eq, Bool.false_eq_true, Bool.true_eq_false, true_iff, false_iff, eq_self, iff_true]; omega
   refine aW (aD (aW (aD (aW (aC (aP rfl Tryz.underlying96 rfl) ?_))))); refine aW (aC (cE rfl rfl) ?_); refine bY (aE (aM ?_)); refine ⟨_, ⟨rfl, trivial⟩, ⟨rfl, rfl, rfl, rfl, rfl, rfl, rfl, trivial⟩, rfl, ?_⟩
   simp only [decide_eq_true_eq, Bool.false_eq_true, Bool.true_eq_false, true_iff, false_iff, eq_self, iff_true]; omega
  rintro z50 _ ⟨rfl, hz50⟩; refine aB ?_; show CW _ _ _ _ [(50, _), (3, _), (6, _), (7, _), (10, _), (11, _), (12, _), (13, _)] _; refine dX rfl (fun a1 => ?_) (fun a1 => ?_)
  ·subst a1; have hj50 := hz50.1 rfl; refine aR (aB (aZ (aL (eY (α := Bool) (fun z82 => [(82, .bool z82)]) [(3, _), (6, _), (7, _), (10, _), (11, _), (12, _), (13, _)] (fun z82 wr => Evo [] wr43 wr ∧ (z82 = true ↔ (j = l2.length ∨ (i < l1.length ∧ dI (fD ds (l1.getD i 0)) (fD ds (l2.getD j 0)) ≤ 0)))) ⟨rfl, rfl, rfl, rfl, rfl, rfl, rfl, trivial⟩ ?_ ?_))))
   ·refine eG (fun w0 w' => Evo [] w0 w') (by kernel_rfl) (fun A F => ?_); have O := M.then F; have a2 := (Evo.refl [] wr43).then F; refine aet 0 rfl (fun _ hS => aV rfl) (Evo.refl [] A) ?_; refine aet 1 rfl (fun _ hS => aV rfl) (Evo.refl [] A) ?_; refine aet 2 rfl (fun _ hS => aP rfl Tryz.underlying96 rfl) (Evo.refl [] A) ?_; refine aet 3 rfl (fun _ hS => qA rfl rfl) (Evo.refl [] A) ?_; refine aet 4 rfl (fun _ hS => aV rfl) (Evo.refl [] A) ?_; refine iZ (t := 55) rfl (fun c7 => ?_) (fun c7 => ?_)
    ·refine dF 5 rfl (Evo.refl [] A) ?_; refine dF 6 rfl (Evo.refl [] A) ?_; refine dF 7 rfl (Evo.refl [] A) ?_; refine dF 8 rfl (Evo.refl [] A) ?_; refine dF 9 rfl (Evo.refl [] A) ?_; refine bO 10 rfl rfl rfl rfl rfl (by kernel_rfl) (by kernel_rfl) (by kernel_rfl) rfl (Evo.refl [] A) ?_; refine bO 11 rfl rfl rfl rfl rfl (by kernel_rfl) (by kernel_rfl) (by kernel_rfl) rfl (Evo.refl [] A) ?_; refine bO 12 rfl rfl rfl rfl rfl (by kernel_rfl) (by kernel_rfl) (by kernel_rfl) rfl (Evo.refl [] A) ?_; refine bO 13 rfl rfl rfl rfl rfl (by kernel_rfl) (by kernel_rfl) (by kernel_rfl) rfl (Evo.refl [] A) ?_; refine bO 14 rfl rfl rfl rfl rfl (by kernel_rfl) (by kernel_rfl) (by kernel_rfl) rfl (Evo.refl [] A) ?_; refine bO 15 rfl rfl rfl rfl rfl (by kernel_rfl) (by kernel_rfl) (by kernel_rfl) rfl (Evo.refl [] A) ?_; refine bO 16 rfl rfl rfl rfl rfl (by kernel_rfl) (by kernel_rfl) (by kernel_rfl) rfl (Evo.refl [] A) ?_; refine bO 17 rfl rfl rfl rfl rfl (by kernel_rfl) (by kernel_rfl) (by kernel_rfl) rfl (Evo.refl [] A) ?_; refine bO 18 rfl rfl rfl rfl rfl (by kernel_rfl) (by kernel_rfl) (by kernel_rfl) rfl (Evo.refl [] A) ?_; refine bO 19 rfl rfl rfl rfl rfl (by kernel_rfl) (by kernel_rfl) (by kernel_rfl) rfl (Evo.refl [] A) ?_
     refine bO 20 rfl rfl rfl rfl rfl (by kernel_rfl) (by kernel_rfl) (by kernel_rfl) rfl (Evo.refl [] A) ?_; refine bO 21 rfl rfl rfl rfl rfl (by kernel_rfl) (by kernel_rfl) (by kernel_rfl) rfl (Evo.refl [] A) ?_; refine bO 22 rfl rfl rfl rfl rfl (by kernel_rfl) (by kernel_rfl) (by kernel_rfl) rfl (Evo.refl [] A) ?_; refine bO 23 rfl rfl rfl rfl rfl (by kernel_rfl) (by kernel_rfl) (by kernel_rfl) rfl (Evo.refl [] A) ?_; refine bO 24 rfl rfl rfl rfl rfl (by kernel_rfl) (by kernel_rfl) (by kernel_rfl) rfl (Evo.refl [] A) ?_; refine bO 25 rfl rfl rfl rfl rfl (by kernel_rfl) (by kernel_rfl) (by kernel_rfl) rfl (Evo.refl [] A) ?_; refine bO 26 rfl rfl rfl rfl rfl (by kernel_rfl) (by kernel_rfl) (by kernel_rfl) rfl (Evo.refl [] A) ?_; refine bO 27 rfl rfl rfl rfl rfl (by kernel_rfl) (by kernel_rfl) (by kernel_rfl) rfl (Evo.refl [] A) ?_; refine aN [28] (by kernel_rfl) rfl ⟨?_, trivial⟩; refine aO rfl ?_; refine dY ?_; refine aE (aJ (.inl (Evo.refl [] A)) ?_); refine bO 29 rfl rfl rfl rfl rfl (by kernel_rfl) (by kernel_rfl) (by kernel_rfl) rfl (Evo.refl [] A) ?_; refine dF 30 rfl (Evo.refl [] A) ?_; refine aet 31 rfl (fun _ hS => dN rfl rfl) (Evo.refl [] A) ?_; refine bN (by kernel_rfl) (aM ?_); refine ⟨_, ⟨rfl, trivial⟩, ⟨rfl, rfl, rfl, rfl, rfl, rfl, rfl, trivial⟩, a2, ?_⟩
     first | (simp only [decide_eq_true_eq, Bool.false_eq_true, true_iff, false_iff, eq_self]; omega) | (rw [gd1 hi9, gd2 hj9, gJ hds1, gJ hds2]; simp only [decide_eq_true_eq, Bool.false_eq_true, true_iff, false_iff, eq_self]; omega)
    refine bH 5 rfl rfl rfl rfl rfl (by kernel_rfl) (by kernel_rfl) (by kernel_rfl) rfl (fun _ hS => aV rfl) (Evo.refl [] A) ?_; refine bH 6 rfl rfl rfl rfl rfl (by kernel_rfl) (by kernel_rfl) (by kernel_rfl) rfl (fun _ hS => aV rfl) (Evo.refl [] A) ?_; refine bH 7 rfl rfl rfl rfl rfl (by kernel_rfl) (by kernel_rfl) (by kernel_rfl) rfl (fun _ hS => aP rfl Tryz.underlying96 rfl) (Evo.refl [] A) ?_; refine bH 8 rfl rfl rfl rfl rfl (by kernel_rfl) (by kernel_rfl) (by kernel_rfl) rfl (fun _ hS => cE rfl rfl) (Evo.refl [] A) ?_; refine bH 9 rfl rfl rfl rfl rfl (by kernel_rfl) (by kernel_rfl) (by kernel_rfl) rfl (fun _ hS => aV rfl) (Evo.refl [] A) ?_; refine iZ (t := 60) rfl (fun c8 => ?_) (fun c8 => ?_)
    ·have hi9 : i < l1.length := by omega
     have hj9 : j < l2.length := by omega
     obtain ⟨b1, o1, vs1, ha1, hb1, -, b4, rfl⟩ := eL1 i hi9; obtain ⟨hm1a, hm1b⟩ := (J.mem _).1 (List.getElem_mem hi9)
     have hds1 : l1[i] < ds.length := by omega
     obtain ⟨sb1, so1, svs1, sha1, shb1, -, shc1, lv1, pv1, rfl, hlv1, hpv1⟩ := e1 _ hds1; obtain ⟨b2, o2, vs2, ha2, hb2, -, b5, rfl⟩ := eL2 j hj9; obtain ⟨hm2a, hm2b⟩ := (K.mem _).1 (List.getElem_mem hj9)
     have hds2 : l2[j] < ds.length := by omega
     obtain ⟨sb2, so2, svs2, sha2, shb2, -, shc2, lv2, pv2, rfl, hlv2, hpv2⟩ := e1 _ hds2; refine bH 10 rfl rfl rfl rfl rfl (by kernel_rfl) (by kernel_rfl) (by kernel_rfl) rfl (fun _ hS => aA rfl bS) (Evo.refl [] A) ?_; refine bH 11 rfl rfl rfl rfl rfl (by kernel_rfl) (by kernel_rfl) (by kernel_rfl) rfl (fun _ hS => aF rfl cA (aK (hS.blk0 (F.blk0 W)) rfl)) (Evo.refl [] A) ?_; refine bH 12 rfl rfl rfl rfl rfl (by kernel_rfl) (by kernel_rfl) (by kernel_rfl) rfl (fun _ hS => aV rfl) (Evo.refl [] A) ?_; refine bH 13 rfl rfl rfl rfl rfl (by kernel_rfl) (by kernel_rfl) (by kernel_rfl) rfl (fun _ hS => aV rfl) (Evo.refl [] A) ?_; refine bH 14 rfl rfl rfl rfl rfl (by kernel_rfl) (by kernel_rfl) (by kernel_rfl) rfl (fun _ hS => aY (n := i) rfl rfl ha1 rfl fI hi9) (Evo.refl [] A) ?_; refine bH 15 rfl rfl rfl rfl rfl (by kernel_rfl) (by kernel_rfl) (by kernel_rfl) rfl (fun _ hS => aF rfl gQ ((b4.evo ((hPm.then F).then hS) (by simp)) 0 _ rfl)) (Evo.refl [] A) ?_; refine bH 16 rfl rfl rfl rfl rfl (by kernel_rfl) (by kernel_rfl) (by kernel_rfl) rfl (fun _ hS => aY (n := l1[i]) rfl rfl sha1 rfl dA hds1) (Evo.refl [] A) ?_; refine bH 17 rfl rfl rfl rfl rfl (by kernel_rfl) (by kernel_rfl) (by kernel_rfl) rfl (fun _ hS => aA rfl bX) (Evo.refl [] A) ?_; refine bH 18 rfl rfl rfl rfl rfl (by kernel_rfl) (by kernel_rfl) (by kernel_rfl) rfl (fun _ hS => aF rfl cG ((shc1.evo (((O.then hS)).any X) shb1) 0 _ rfl)) (Evo.refl [] A) ?_
     refine bH 19 rfl rfl rfl rfl rfl (by kernel_rfl) (by kernel_rfl) (by kernel_rfl) rfl (fun _ hS => aA rfl bS) (Evo.refl [] A) ?_; refine bH 20 rfl rfl rfl rfl rfl (by kernel_rfl) (by kernel_rfl) (by kernel_rfl) rfl (fun _ hS => aF rfl cA (aK (hS.blk0 (F.blk0 W)) rfl)) (Evo.refl [] A) ?_; refine bH 21 rfl rfl rfl rfl rfl (by kernel_rfl) (by kernel_rfl) (by kernel_rfl) rfl (fun _ hS => aV rfl) (Evo.refl [] A) ?_; refine bH 22 rfl rfl rfl rfl rfl (by kernel_rfl) (by kernel_rfl) (by kernel_rfl) rfl (fun _ hS => aV rfl) (Evo.refl [] A) ?_; refine bH 23 rfl rfl rfl rfl rfl (by kernel_rfl) (by kernel_rfl) (by kernel_rfl) rfl (fun _ hS => aY (n := j) rfl rfl ha2 rfl fI hj9) (Evo.refl [] A) ?_; refine bH 24 rfl rfl rfl rfl rfl (by kernel_rfl) (by kernel_rfl) (by kernel_rfl) rfl (fun _ hS => aF rfl gQ ((b5.evo ((hPm.then F).then hS) (by simp)) 0 _ rfl)) (Evo.refl [] A) ?_; refine bH 25 rfl rfl rfl rfl rfl (by kernel_rfl) (by kernel_rfl) (by kernel_rfl) rfl (fun _ hS => aY (n := l2[j]) rfl rfl sha2 rfl dA hds2) (Evo.refl [] A) ?_; refine bH 26 rfl rfl rfl rfl rfl (by kernel_rfl) (by kernel_rfl) (by kernel_rfl) rfl (fun _ hS => aA rfl bX) (Evo.refl [] A) ?_; refine bH 27 rfl rfl rfl rfl rfl (by kernel_rfl) (by kernel_rfl) (by kernel_rfl) rfl (fun _ hS => aF rfl cG ((shc2.evo (((O.then hS)).any X) shb2) 0 _ rfl)) (Evo.refl [] A) ?_; refine aN [28] (by kernel_rfl) rfl ⟨?_, trivial⟩; refine aO rfl ?_; refine aW ?_
     refine aG (vs := [_, _]) pF rfl (qT (hlv1.evo RLB.pers ((O).any X)) (hlv2.evo RLB.pers ((O).any X)) (by have := (hsm.2 _ (List.getElem_mem hds1)).1; omega) (by have := (hsm.2 _ (List.getElem_mem hds2)).1; omega)) rfl ?_
     rintro _ e8 ⟨rfl, b6⟩; have U := (Evo.refl [] A).then b6; refine aE (aJ (.inl U) ?_); refine bH 29 rfl rfl rfl rfl rfl (by kernel_rfl) (by kernel_rfl) (by kernel_rfl) rfl (fun _ hS => eP rfl rfl) U ?_; refine bH 30 rfl rfl rfl rfl rfl (by kernel_rfl) (by kernel_rfl) (by kernel_rfl) rfl (fun _ hS => dN rfl rfl) U ?_; refine aet 31 rfl (fun _ hS => dO rfl rfl) U ?_; refine bN (by kernel_rfl) (aM ?_); refine ⟨_, ⟨rfl, trivial⟩, ⟨rfl, rfl, rfl, rfl, rfl, rfl, rfl, trivial⟩, (a2.then b6), ?_⟩
     first | (simp only [decide_eq_true_eq, Bool.false_eq_true, true_iff, false_iff, eq_self]; omega) | (rw [gd1 hi9, gd2 hj9, gJ hds1, gJ hds2]; simp only [decide_eq_true_eq, Bool.false_eq_true, true_iff, false_iff, eq_self]; omega)
    refine dF 10 rfl (Evo.refl [] A) ?_; refine dF 11 rfl (Evo.refl [] A) ?_; refine dF 12 rfl (Evo.refl [] A) ?_; refine dF 13 rfl (Evo.refl [] A) ?_; refine dF 14 rfl (Evo.refl [] A) ?_; refine dF 15 rfl (Evo.refl [] A) ?_; refine dF 16 rfl (Evo.refl [] A) ?_; refine dF 17 rfl (Evo.refl [] A) ?_; refine dF 18 rfl (Evo.refl [] A) ?_; refine dF 19 rfl (Evo.refl [] A) ?_; refine dF 20 rfl (Evo.refl [] A) ?_; refine dF 21 rfl (Evo.refl [] A) ?_; refine dF 22 rfl (Evo.refl [] A) ?_; refine dF 23 rfl (Evo.refl [] A) ?_; refine dF 24 rfl (Evo.refl [] A) ?_
    refine dF 25 rfl (Evo.refl [] A) ?_; refine dF 26 rfl (Evo.refl [] A) ?_; refine dF 27 rfl (Evo.refl [] A) ?_; refine aN [28] (by kernel_rfl) rfl ⟨?_, trivial⟩; refine aO rfl ?_; refine bB (aE (aJ (.inl (Evo.refl [] A)) ?_)); refine dF 29 rfl (Evo.refl [] A) ?_; refine bH 30 rfl rfl rfl rfl rfl (by kernel_rfl) (by kernel_rfl) (by kernel_rfl) rfl (fun _ hS => dO rfl rfl) (Evo.refl [] A) ?_; refine aet 31 rfl (fun _ hS => dO rfl rfl) (Evo.refl [] A) ?_; refine bN (by kernel_rfl) (aM ?_); refine ⟨_, ⟨rfl, trivial⟩, ⟨rfl, rfl, rfl, rfl, rfl, rfl, rfl, trivial⟩, a2, ?_⟩
    first | (simp only [decide_eq_true_eq, Bool.false_eq_true, true_iff, false_iff, eq_self]; omega) | (rw [gd1 hi9, gd2 hj9, gJ hds1, gJ hds2]; simp only [decide_eq_true_eq, Bool.false_eq_true, true_iff, false_iff, eq_self]; omega)
   rintro z82 e9 ⟨D, hz82⟩; refine aB ?_; show CW _ _ _ _ [(82, _), (3, _), (6, _), (7, _), (10, _), (11, _), (12, _), (13, _)] _; have G := hPm.then D; refine dX rfl (fun a3 => ?_) (fun a3 => ?_)
   ·subst a3; have hj82 := hz82.1 rfl
    have hi9 : i < l1.length := by rcases hj82 with h9 | h9; omega; exact h9.1
    obtain ⟨b1, o1, vs1, ha1, hb1, -, b4, rfl⟩ := eL1 i hi9; refine csr (aD (aD (aD (aC (aY (n := i) rfl rfl ha1 rfl fI hi9) ?_)))); refine aC (aF rfl gQ ((b4.evo G (by simp)) 0 _ rfl)) ?_; refine cK (vs := [_]) rfl fY rfl rfl rfl rfl fun f0 f1 c9 d9 I => ?_; have b7 := (M.then D).then I; have b8 := I.blk0 (D.blk0 W)
    refine dB rfl rfl rfl rfl gM ((hO.evo0 D).evo0 I) (Src.ofOwn c9 ⟨by first | rfl | assumption, trivial⟩) (by (have := hM.len; omega)) fun pax89 pcx89 f2 obx89 hOx89 a4 hob87 => ?_
    refine wan (aQ (aD ?_)); refine aC (aT rfl rfl (by omega) (by omega)) ?_; refine cL (aE (bC (aM ?_))); refine ⟨⟨i + 1, j, n + 1, pax89, pcx89, obx89, l ++ [l1[i]]⟩, ?_, ⟨rfl, rfl, rfl, trivial⟩, ⟨rfl, rfl, rfl, rfl, trivial⟩, (b7.step a4 hGm1.mem), ?_⟩
    · (try dsimp only); omega
    try dsimp only
    have H := hOx89
    refine ⟨by omega, by omega, hM.left J.pw K.pw hi9 hlr (fun hj9 => by have := hj82.resolve_left (by omega); rw [gd1 hi9, gd2 hj9] at this; exact this.2), by rw [List.length_append, hn]; rfl, by rw [List.map_append]; exact H, (a4.blk b8 hAm.nmem), ((G.then I).step a4 hGm2.mem), (hGm1.app b7 hob87), (hGm2.app (G.then I) hob87), (hAm.app (Lt.blk b8) hob87)⟩
   subst a3
   have hj82 : ¬ (j = l2.length ∨ (i < l1.length ∧ dI (fD ds (l1.getD i 0)) (fD ds (l2.getD j 0)) ≤ 0)) := fun h9 => by have := hz82.2 h9; cases this
   have hj9 : j < l2.length := by omega
   obtain ⟨b2, o2, vs2, ha2, hb2, -, b5, rfl⟩ := eL2 j hj9; refine csr (aD (aD (aD (aC (aY (n := j) rfl rfl ha2 rfl fI hj9) ?_)))); refine aC (aF rfl gQ ((b5.evo G (by simp)) 0 _ rfl)) ?_; refine cK (vs := [_]) rfl fY rfl rfl rfl rfl fun f3 f4 d0 e0 E => ?_; have a6 := (M.then D).then E; have a7 := E.blk0 (D.blk0 W)
   refine dB rfl rfl rfl rfl gM ((hO.evo0 D).evo0 E) (Src.ofOwn d0 ⟨by first | rfl | assumption, trivial⟩) (by (have := hM.len; omega)) fun pax98 pcx98 e2 obx98 hOx98 V hob115 => ?_
   refine wan (aQ (aD ?_)); refine aC (aT rfl rfl (by omega) (by omega)) ?_; refine cL (aE (bC (aM ?_))); refine ⟨⟨i, j + 1, n + 1, pax98, pcx98, obx98, l ++ [l2[j]]⟩, ?_, ⟨rfl, rfl, rfl, trivial⟩, ⟨rfl, rfl, rfl, rfl, trivial⟩, (a6.step V hGm1.mem), ?_⟩
   · (try dsimp only); omega
   try dsimp only
   have H := hOx98
   refine ⟨by omega, by omega, hM.right J.pw K.pw hj9 (fun hi9 h9 => hj82 (.inr ⟨hi9, by rw [gd1 hi9, gd2 hj9]; exact h9⟩)), by rw [List.length_append, hn]; rfl, by rw [List.map_append]; exact H, (V.blk a7 hAm.nmem), ((G.then E).step V hGm2.mem), (hGm1.app a6 hob115), (hGm2.app (G.then E) hob115), (hAm.app (Lt.blk a7) hob115)⟩
  subst a1
  have hj50 : ¬ (i < l1.length ∨ j < l2.length) := fun h9 => by have := hz50.2 h9; cases this
  obtain rfl : i = l1.length := by omega
  obtain rfl : j = l2.length := by omega
  refine bJ (bD (bD (bI (aB ?_)))); refine csr (aD (wan (aS (br1 ?_)))); subst hn; exact ⟨pa, pc, l, o, rfl, hO, hGm1, hM.done J K (by omega) (by omega), M⟩
theorem HA {X : List Nat} {ds : List SD} (hsm : iL ds) (hl : ds.length ≤ 1000) (a b : Nat) (hab : a ≤ b) (hb : b ≤ ds.length) {w : World} {v : Value} (hs : RSl 2 RSer X w v ds) : Calls Tryz.prog 38 #[.agg #[v], ivn a, ivn b] w (Ret (GC ds a b w)) := by
  suffices h : ∀ m a b, a ≤ b → b ≤ ds.length → b - a = m → ∀ {w : World} {v : Value}, RSl 2 RSer X w v ds → Calls Tryz.prog 38 #[.agg #[v], ivn a, ivn b] w (Ret (GC ds a b w)) from h _ a b hab hb rfl hs
  intro m
  induction m using Nat.strongRecOn with
  | _ m ih => exact fun a b hab hb hm {w v} hs => AB hsm hl m (fun a b h1 h2 h3 {w v} h4 => ih (b - a) h3 a b h1 h2 rfl h4) a b hab hb hm hs
theorem pK : jE Tryz.prog 59 = some 1 := by kernel_rfl
theorem xJ : vJ Tryz.prog 59 = some (4, 1, 1, #[.bool false]) := by kernel_rfl
abbrev bvl (b : Bool) : Value := .bool b
theorem own_bl {X : List Nat} {w : World} {e : TypeId} {a : Option Addr} {n c : Nat} {l : List Bool} {ob : Option Nat} (h : OwnS w e 1 a n c (l.map bvl) ob) (hl : l.length = n) (hx : ∀ g, ob = some g → g ∉ X) : RSl 1 LZ X w (.slice a n c) l :=
  RSl.ofOwn (rows := l.map fun x => [bvl x]) (by rw [show (l.map fun x => [bvl x]).flatten = l.map bvl from by clear h hl; induction l with | nil => rfl | cons x l ih => simp [ih]]; exact h)
    ⟨by simp, fun k h1 h2 => by simp only [List.getElem_map]; exact ⟨rfl, rfl⟩⟩ hl hx
theorem IN (n : Nat) : gW #[.bool false] n = (List.replicate n false).map bvl := by
  unfold gW
  induction n with
  | zero => rfl
  | succ n ih => rw [List.replicate_succ, List.flatten_cons, ih]; rfl
def TwinsTo (ds : List SD) (l : List Nat) (i : Nat) (tw : List Bool) : Prop := tw.length = ds.length ∧ ∀ x (hx : x < tw.length), tw[x] = true ↔ ∃ q, ∃ h : q < l.length, 1 ≤ q ∧ q < i ∧ l[q] = x ∧ dI (fD ds (l[q - 1]'(by omega))) (fD ds x) = 0
theorem TwinsTo.zero (ds : List SD) (l : List Nat) : TwinsTo ds l 1 (List.replicate ds.length false) := ⟨by simp, fun x hx => by
  simp only [List.getElem_replicate, Bool.false_eq_true, false_iff]
  rintro ⟨q, h, h1, h2, -⟩
  omega⟩
theorem TwinsTo.step {ds : List SD} {l : List Nat} {n i : Nat} {tw : List Bool} (h : TwinsTo ds l i tw) (hr : Rk ds 0 n l) (hi : i < l.length) (h1 : 1 ≤ i) {b : Bool} (hb : b = true ↔ dI (fD ds (l[i - 1]'(by omega))) (fD ds l[i]) = 0) : TwinsTo ds l (i + 1) (tw.set l[i] b) := by
  refine ⟨by rw [List.length_set]; exact h.1, fun x hx => ?_⟩
  have hpw := List.pairwise_iff_getElem.1 hr.pw
  have hinj : ∀ p (hp : p < l.length), l[p] = l[i] → p = i := fun p hp e => by
    rcases Nat.lt_trichotomy p i with h9 | h9 | h9
    · have := hpw p i hp hi h9; rw [e] at this; exact (mV this).elim
    · exact h9
    · have := hpw i p hi hp h9; rw [e] at this; exact (mV this).elim
  rw [List.getElem_set]
  split
  · rename_i e
    subst e
    rw [hb]
    constructor
    · exact fun h2 => ⟨i, hi, h1, by omega, rfl, h2⟩
    · rintro ⟨q, hq, h2, h3, h4, h5⟩
      have := hinj q hq h4
      subst this
      exact h5
  · rename_i e
    rw [h.2 x (by rw [List.length_set] at hx; exact hx)]
    constructor
    · rintro ⟨q, hq, h2, h3, h4, h5⟩
      exact ⟨q, hq, h2, by omega, h4, h5⟩
    · rintro ⟨q, hq, h2, h3, h4, h5⟩
      refine ⟨q, hq, h2, ?_, h4, h5⟩
      rcases Nat.lt_or_ge q i with h6 | h6
      · exact h6
      · obtain rfl : q = i := by omega
        exact absurd h4 e
theorem TwinsTo.done {ds : List SD} {l : List Nat} {i : Nat} {tw : List Bool} (h : TwinsTo ds l i tw) (hr : Rk ds 0 ds.length l) (hi : l.length ≤ i) : ∀ x (hx : x < tw.length), tw[x] = true ↔ ∃ y, y < x ∧ fD ds y = fD ds x := fun x hx => by
  have hl := h.1
  rw [h.2 x hx]
  obtain ⟨q, hq, rfl⟩ := List.getElem_of_mem ((hr.mem x).2 ⟨Nat.zero_le _, by omega⟩)
  rw [IX hr hq]
  have hpw := List.pairwise_iff_getElem.1 hr.pw
  constructor
  · rintro ⟨p, hp, h2, h3, h4, h5⟩
    have : p = q := by
      rcases Nat.lt_trichotomy p q with h9 | h9 | h9
      · have := hpw p q hp hq h9; rw [h4] at this; exact (mV this).elim
      · exact h9
      · have := hpw q p hq hp h9; rw [h4] at this; exact (mV this).elim
    subst this
    exact ⟨h2, h5⟩
  · rintro ⟨h2, h3⟩
    exact ⟨q, hq, h2, by omega, rfl, h3⟩
theorem IW {X : List Nat} {ds : List SD} (hsm : iL ds) (hl : ds.length ≤ 1000) {w : World} {v : Value} (hs : RSl 2 RSer X w v ds) : Calls Tryz.prog 22 #[.agg #[v]] w (Ret fun r w' => ∃ tw : List Bool, RSl 1 LZ [] w' r tw ∧ tw.length = ds.length ∧ (∀ x (hx : x < tw.length), tw[x] = true ↔ ∃ y, y < x ∧ fD ds y = fD ds x) ∧ Evo [] w w') := by
  have a6 := hs; obtain ⟨sa, sc, rfl, hlc, e1⟩ := hs; refine aU (N := 49) Tryz.func22 rfl rfl rfl ?_; refine csr (dZ rfl rfl fun b1 w1 U a7 a8 => ?_); have a9 := a7; have V := (Evo.refl [] w).then a8; refine wan (csr (wfl rfl bS rfl cA U rfl (aC (aP rfl Tryz.underlying24 rfl) ?_))); refine rN (len := ds.length) (c := ds.length) rfl rfl rfl xJ (by omega) (by omega) (by omega) (by decide) (by omega) (by omega) fun bt w8 W Y I => ?_; have J := I.blk0 U; refine wan (csr (aC (cV rfl dJ cJ J rfl) (wfl rfl bS rfl cA J rfl (aC (aP rfl Tryz.underlying24 rfl) ?_)))); refine aG (vs := [_, _, _]) lQ rfl (HA hsm hl 0 ds.length (Nat.zero_le _) (Nat.le_refl _) (a6.evo RSer.pers (((V.then I)).any X))) rfl ?_; rintro _ b4 ⟨pa, pc, l, ob, rfl, hOl, hGl, hR, K⟩; have hL := DD (X := [bt]) hOl rfl (fun g hg hm => (Apart.fresh (Lt.own W) hGl).symm g hg (by rw [List.mem_singleton.1 hm])); obtain ⟨xa, xc, xe, -, eL⟩ := id hL; simp only [Value.slice.injEq] at xe; obtain ⟨rfl, -, rfl⟩ := xe; have hRl := hR.len; refine wan (aL (csr (wan (aZ ?_))))
  refine cH (α := Nat × List Bool) (⟨1, List.replicate ds.length false⟩) (fun x => [(5, .int .i64 (x.1 : Nat))]) [(1, _), (2, _), (3, _), (4, _)] (fun x wr => Evo [] w wr ∧ (1 ≤ x.1 ∧ (x.1 ≤ l.length ∨ x.1 = 1) ∧ TwinsTo ds l x.1 x.2 ∧ OwnS wr 4 1 (some ⟨bt, 0, none⟩) ds.length ds.length (x.2.map bvl) (some bt) ∧ wr.heap[b1]? = some (.cells #[.slice sa ds.length sc] 26 (0, 0)) ∧ Evo [bt] b4 wr ∧ Ge w (some bt) ∧ Apart (some b1) (some bt))) (fun x => l.length - x.1) ⟨rfl, trivial⟩ ⟨rfl, rfl, rfl, rfl, trivial⟩ ⟨((V.then I).then K), ⟨Nat.le_refl _, .inr rfl, TwinsTo.zero _ _, by rw [← IN]; exact (W.evo0 K), (K.blk0 J), Evo.refl _ _, (Ge.new V Y), (Apart.new (Lt.blk U) Y)⟩⟩ ?_
  rintro ⟨i, tw⟩ wr24 ⟨a0, ⟨hi1, hi2, hT, hTW, a1, hPt, hGt, hAt⟩⟩; show CW _ _ _ _ [(5, .int .i64 (i : Nat)), (1, _), (2, _), (3, _), (4, _)] _
  try dsimp only at hi1 hi2 hT hTW a1 hPt hGt hAt
  refine aL (csr (aD (aD (aC (aP rfl Tryz.underlying96 rfl) ?_)))); refine aC (cE rfl rfl) ?_; refine wnn (bP rfl (fun a3 => ?_) (fun a3 => ?_))
  ·have hi9 : i < l.length := by omega
   have hi8 : i - 1 < l.length := by omega
   have haT : (some ⟨bt, 0, none⟩ : Option Addr) = some ⟨bt, 0, none⟩ := rfl; have htl := hT.1; obtain ⟨b1, o1, vs1, ha1, hb1, -, b5, rfl⟩ := eL (i - 1) hi8; have hds1 : l[(i - 1)] < ds.length := ((hR.mem _).1 (List.getElem_mem hi8)).2; obtain ⟨sb1, so1, svs1, sha1, shb1, -, shc1, lv1, pv1, rfl, hlv1, hpv1⟩ := e1 _ hds1; obtain ⟨b2, o2, vs2, ha2, hb2, -, a2, rfl⟩ := eL i hi9; have hds2 : l[i] < ds.length := ((hR.mem _).1 (List.getElem_mem hi9)).2; obtain ⟨sb2, so2, svs2, sha2, shb2, -, shc2, lv2, pv2, rfl, hlv2, hpv2⟩ := e1 _ hds2; refine aR (aB (aL (aZ ?_))); refine eG (fun w0 w' => Evo [] w0 w') (by kernel_rfl) (fun A G => ?_); have D := a0.then G; have H := hPt.then G; have L := G.blk0 a1; refine aet 0 rfl (fun _ hS => aV rfl) (Evo.refl [] A) ?_; refine aet 1 rfl (fun _ hS => aV rfl) (Evo.refl [] A) ?_; refine aet 2 rfl (fun _ hS => aV rfl) (Evo.refl [] A) ?_; refine aet 3 rfl (fun _ hS => aY (n := i) rfl rfl ha2 rfl fI hi9) (Evo.refl [] A) ?_; refine aet 4 rfl (fun _ hS => aF rfl gQ ((a2.evo (H.then hS) hb2) 0 _ rfl)) (Evo.refl [] A) ?_; refine aet 5 rfl (fun _ hS => aA rfl bS) (Evo.refl [] A) ?_; refine aet 6 rfl (fun _ hS => aF rfl cA (aK (hS.blk0 L) rfl)) (Evo.refl [] A) ?_
   refine aet 7 rfl (fun _ hS => aV rfl) (Evo.refl [] A) ?_; refine aet 8 rfl (fun _ hS => aV rfl) (Evo.refl [] A) ?_; refine aet 9 rfl (fun _ hS => aX rfl rfl (by omega) (by omega)) (Evo.refl [] A) ?_; refine aet 10 rfl (fun _ hS => aY (n := i - 1) rfl rfl ha1 (by omega) fI hi8) (Evo.refl [] A) ?_; refine aet 11 rfl (fun _ hS => aF rfl gQ ((b5.evo (H.then hS) hb1) 0 _ rfl)) (Evo.refl [] A) ?_; refine aet 12 rfl (fun _ hS => aY (n := l[i - 1]) rfl rfl sha1 rfl dA hds1) (Evo.refl [] A) ?_; refine aet 13 rfl (fun _ hS => aA rfl bX) (Evo.refl [] A) ?_; refine aet 14 rfl (fun _ hS => aF rfl cG ((shc1.evo (((D.then hS)).any X) shb1) 0 _ rfl)) (Evo.refl [] A) ?_; refine aet 15 rfl (fun _ hS => aA rfl bS) (Evo.refl [] A) ?_; refine aet 16 rfl (fun _ hS => aF rfl cA (aK (hS.blk0 L) rfl)) (Evo.refl [] A) ?_; refine aet 17 rfl (fun _ hS => aV rfl) (Evo.refl [] A) ?_; refine aet 18 rfl (fun _ hS => aV rfl) (Evo.refl [] A) ?_
   refine aet 19 rfl (fun _ hS => aY (n := i) rfl rfl ha2 rfl fI hi9) (Evo.refl [] A) ?_; refine aet 20 rfl (fun _ hS => aF rfl gQ ((a2.evo (H.then hS) hb2) 0 _ rfl)) (Evo.refl [] A) ?_; refine aet 21 rfl (fun _ hS => aY (n := l[i]) rfl rfl sha2 rfl dA hds2) (Evo.refl [] A) ?_; refine aet 22 rfl (fun _ hS => aA rfl bX) (Evo.refl [] A) ?_; refine aet 23 rfl (fun _ hS => aF rfl cG ((shc2.evo (((D.then hS)).any X) shb2) 0 _ rfl)) (Evo.refl [] A) ?_; refine aN [24] (by kernel_rfl) rfl ⟨?_, trivial⟩; refine aO rfl ?_
   refine aG (vs := [_, _]) pF rfl (qT (hlv1.evo RLB.pers ((D).any X)) (hlv2.evo RLB.pers ((D).any X)) (by have := (hsm.2 _ (List.getElem_mem hds1)).1; omega) (by have := (hsm.2 _ (List.getElem_mem hds2)).1; omega)) rfl ?_
   rintro _ b7 ⟨rfl, E⟩; have M := (Evo.refl [] A).then E; have O := (hTW.evo0 G).evo0 E; refine aE (aJ (.inl M) ?_); refine aet 25 rfl (fun _ hS => qA rfl rfl) M ?_; refine aet 26 rfl (fun _ hS => aY (n := l[i]) rfl rfl haT rfl pK hds2) M ?_; refine aN [27] (by kernel_rfl) rfl ⟨?_, trivial⟩; refine aO rfl ?_
   obtain ⟨g48, cur39, hg40, hx41, hcu42, hcs43, -⟩ := O.at (by omega)
   rw [haT] at hx41; cases hx41
   refine lD rfl rfl (rfl) rH hcu42 (O.inb hcs43 (k := l[i]) (j := 0) (by omega) (by omega) (by omega)) fun b8 a4 F => ?_; replace F := tA hg40 F
   have a5 := (H.then E).step F (by intro y hy; left; simpa using hy)
   refine aE (aJ (.inr (by kernel_rfl)) ?_); refine bN (by kernel_rfl) (bC (aB ?_)); refine aQ (aD ?_); refine aC (aT rfl rfl (by omega) (by omega)) ?_; refine cL (aE (aM ?_)); refine ⟨⟨i + 1, tw.set l[i] (decide (dI ds[l[i - 1]].1 ds[l[i]].1 = 0))⟩, ?_, ⟨rfl, trivial⟩, ⟨rfl, rfl, rfl, rfl, trivial⟩, ((D.then E).step F hGt.mem), ?_⟩
   · (try dsimp only); omega
   try dsimp only
   have b6 := (O.set' hg40 hcu42 a4); refine ⟨by omega, by omega, hT.step hR hi9 hi1 (by rw [decide_eq_true_eq, gJ hds1, gJ hds2]), ?_, (F.blk (E.blk0 L) hAt.nmem), a5, hGt, hAt⟩; rw [List.map_set]
   simpa using b6
  refine bJ (bD (bD (bI (aB ?_)))); refine csr (aD (wan (aS (br1 ?_)))); exact ⟨tw, own_bl hTW hT.1 (by simp), hT.1, hT.done hR (by omega), a0⟩
theorem yT : dC Tryz.prog 22 := ⟨_, Tryz.func22, by kernel_rfl, by kernel_rfl⟩
theorem pH : dC Tryz.prog 23 := ⟨_, Tryz.func23, by kernel_rfl, by kernel_rfl⟩
def mF (l : List SD) : List ByteArray := (l.map fun s => bstr (fE s.1)).reverse
theorem AN (l : List SD) (s : SD) : mF (l ++ [s]) = bstr (fE s.1) :: mF l := by simp [mF]
theorem mW {ds : List SD} {k : Nat} (hk : k < ds.length) : bstr (fE ds[k].1) ∈ mF (ds.take k) ↔ ∃ y, y < k ∧ fD ds y = fD ds k := by
  unfold mF
  rw [List.mem_reverse, List.mem_map, gJ hk]
  constructor
  · rintro ⟨s, hs, he⟩
    obtain ⟨y, hy, rfl⟩ := List.getElem_of_mem hs
    rw [List.length_take] at hy
    refine ⟨y, by omega, ?_⟩
    rw [gJ (by omega)]
    rw [List.getElem_take] at he
    exact FH.1 he
  · rintro ⟨y, hy, he⟩
    rw [gJ (by omega)] at he
    exact ⟨ds[y], List.mem_take_iff_getElem.2 ⟨y, by omega, rfl⟩, by rw [he]⟩
theorem GZ {X : List Nat} {ds : List SD} (hsm : iL ds) {w : World} {v : Value} (hs : RSl 2 RSer X w v ds) : Calls Tryz.prog 8 #[.agg #[v]] w (Ret fun r w' => r = .tuple #[.int .i64 ((chk ds).1 : Nat), iv3 (chk ds).2] ∧ Evo [] w w') := by
  have a1 := hs; have hlb := hsm.1; obtain ⟨sa, sc, rfl, hlc, e1⟩ := hs; refine aU (N := 58) Tryz.func8 rfl rfl rfl ?_; refine csr (dZ rfl rfl fun b1 w1 K a2 a3 => ?_); have a4 := a2; have L := (Evo.refl [] w).then a3; refine cL (wan (aL (csr (wfl rfl bS rfl cA K rfl (aC (aP rfl Tryz.underlying24 rfl) ?_))))); refine aC (eQ rfl rfl) ?_; refine wnn (bP rfl (fun W => ?_) (fun W => ?_))
  ·refine csr (cL (wan (aS (aI (cQ rfl rfl rfl ?_)))))
   exact ⟨by rw [oP (by omega)] <;> rfl, L⟩
  refine aR (aB (csr (aC (cV rfl dJ cJ K rfl) ?_))); refine aG (vs := [_]) yT rfl (IW hsm (by omega) (a1.evo RSer.pers ((L).any X))) rfl ?_; rintro tv w7 ⟨tw, htw, htl, htt, V⟩; obtain ⟨ta, tc, rfl, htc, et⟩ := htw; refine wan (csr (wan (aL (csr (wan (aZ ?_)))))); refine cH (α := Nat × Nat) ((0, 0)) (fun x => [(6, .int .i64 (x.1 : Nat)), (5, .int .i64 (x.2 : Nat))]) [(1, _), (4, _)] (fun x wr => Evo [] w wr ∧ (x.1 ≤ ds.length ∧ x.2 ≤ 100000 ∧ chk ds = eN (mF (ds.take x.1)) x.2 x.1 (ds.drop x.1) ∧ wr.heap[b1]? = some (.cells #[.slice sa ds.length sc] 26 (0, 0)) ∧ RSl 1 LZ [] wr (.slice ta tw.length tc) tw)) (fun x => ds.length - x.1) ⟨rfl, rfl, trivial⟩ ⟨rfl, rfl, trivial⟩ ⟨(L.then V), ⟨Nat.zero_le _, Nat.zero_le _, oQ (by omega), (V.blk0 K), RSl.evo (fun _ _ _ _ _ _ h => h) (Evo.refl [] w7) ⟨ta, tc, rfl, htc, et⟩⟩⟩ ?_; rintro ⟨k, n⟩ wr11 ⟨E, ⟨hk, hn, hck, H, htw2⟩⟩; show CW _ _ _ _ [(6, .int .i64 (k : Nat)), (5, .int .i64 (n : Nat)), (1, _), (4, _)] _
  try dsimp only at hk hn hck H htw2
  refine aL (csr (aD (wfl rfl bS rfl cA H rfl (aC (aP rfl Tryz.underlying24 rfl) ?_)))); refine aC (cE rfl rfl) ?_; refine wnn (bP rfl (fun Y => ?_) (fun Y => ?_))
  ·have hk' : k < ds.length := by omega
   have hdr := List.drop_eq_getElem_cons hk'; have hlk := hsm.2 _ (List.getElem_mem hk'); obtain ⟨b2, o2, vs2, ha2, hb2, -, M, lv, pv, rfl, hlv, hpv⟩ := e1 k hk'; obtain ⟨ta2, tc2, te2, htc2, et2⟩ := id htw2; simp only [Value.slice.injEq] at te2; obtain ⟨rfl, -, rfl⟩ := te2
   have htk : k < tw.length := by omega
   obtain ⟨b3, o3, vs3, ha3, hb3, -, a5, hz3⟩ := et2 k htk; replace hz3 : vs3 = [.bool tw[k]] := hz3; subst hz3; have hpv1 := hpv.one; obtain ⟨pa, pc, hpe, -, -⟩ := id hpv; have hlv1 := hlv.one; refine aR (aB (aL (aZ (csr (wfl rfl bS rfl cA H rfl (aD (aC (aY (n := k) rfl rfl ha2 rfl dA hk') ?_))))))); refine aC (dQ rfl gN dU (vs := [_, _]) rfl (M.evo ((E).any X) hb2)) ?_; refine aG (vs := [_, _]) pH rfl (DY (hlv.evo RLB.pers ((E).any X)) (hpv.evo RSmp.pers ((E).any X)) (by omega) (by omega)) rfl ?_; rintro _ a6 ⟨rfl, F⟩; have A := E.then F; have O := (Evo.refl [] wr11).then F; refine wan (aL (csr (aD (aC (eO rfl rfl) ?_)))); refine wnn (bP rfl (fun D => ?_) (fun D => ?_))
   ·refine csr (aD (aD (cL (wan (aS (aI (bA (aI (aI (bA (aI (cQ rfl rfl rfl ?_))))))))))))
    exact ⟨by rw [hck, hdr, kG D] <;> rfl, A⟩
   refine aR (aB (aL (csr (aD (aD (aC (aY (n := k) rfl rfl ha3 rfl pK htk) ?_)))))); refine aC (aF rfl jZ ((a5.evo O hb3) 0 _ rfl)) (wnn (dX rfl (fun y => ?_) (fun y => ?_)))
   ·have hin := (mW hk').2 ((htt k htk).1 y); refine csr (aD (cL (wan (aS (aI (bA (aI (aI (bA (aI (cQ rfl rfl rfl ?_)))))))))))
    exact ⟨by rw [hck, hdr, kH D hin] <;> rfl, A⟩
   replace y : ¬ tw[k] = true := by rw [y]; simp
   refine aR (aB (csr (wfl rfl bS rfl cA (F.blk0 H) rfl (aD (aC (aY (n := k) rfl rfl ha2 rfl dA hk') ?_))))); refine aC (dQ rfl gN dU (vs := [_, _]) rfl (M.evo ((A).any X) hb2)) ?_; refine aG (vs := [_, _]) pH rfl (DZ (hlv.evo RLB.pers ((A).any X)) (hpv.evo RSmp.pers ((A).any X)) (by omega) (by omega)) rfl ?_; rintro _ a7 ⟨e9, rfl, he9, I⟩; have G := A.then I; have U := I.blk0 (F.blk0 H); refine wan (aL (csr (aD (aC (eO rfl rfl) ?_)))); refine wnn (bP rfl (fun J => ?_) (fun J => ?_))
   ·have hnr : ¬ fU ds[k].2 := by rcases he9 with ⟨h8, -⟩ | ⟨-, h8⟩; exact absurd h8 J; exact h8
    have he192 : e9 = 192 := by rcases he9 with ⟨h8, -⟩ | ⟨h8, -⟩; exact absurd h8 J; exact h8
    have hni : ¬ bstr (fE ds[k].1) ∈ mF (ds.take k) := fun h => y ((htt k htk).2 ((mW hk').1 h)); refine csr (aD (aD (cL (wan (aS (aI (bA (aI (aI (bA (aI (cQ rfl rfl rfl ?_))))))))))))
    exact ⟨by rw [hck, hdr, kF D hni hnr, he192] <;> rfl, G⟩
   have hro : fU ds[k].2 := by rcases he9 with ⟨-, h8⟩ | ⟨h8, -⟩; exact h8; omega
   have hni : ¬ bstr (fE ds[k].1) ∈ mF (ds.take k) := fun h => y ((htt k htk).2 ((mW hk').1 h)); refine aR (aB (csr (aD (wfl rfl bS rfl cA U rfl (aD (aC (aY (n := k) rfl rfl ha2 rfl dA hk') ?_)))))); refine aC (aA rfl dP) ?_; subst hpe; refine aC (aF rfl dT ((M.evo ((G).any X) hb2) 1 _ rfl)) (aC (aP rfl Tryz.underlying43 rfl) ?_); refine aC (aT rfl rfl (by omega) (by omega)) ?_; refine wan (csr (aD (aC (eQ rfl rfl) ?_))); refine wnn (bP rfl (fun a0 => ?_) (fun a0 => ?_))
   ·refine csr (aD (cL (wan (aS (bA (aI (aI (bA (aI (cQ rfl rfl rfl ?_))))))))))
    exact ⟨by rw [hck, hdr, jH D hni hro (by omega)] <;> rfl, G⟩
   refine aR (bC (aB (aQ (aD ?_)))); refine aC (aT rfl rfl (by omega) (by omega)) ?_; refine cL (aE (aM ?_)); refine ⟨⟨k + 1, n + ds[k].2.length⟩, ?_, ⟨rfl, rfl, trivial⟩, ⟨rfl, rfl, trivial⟩, G, ?_⟩
   · (try dsimp only); omega
   try dsimp only
   refine ⟨by omega, by omega, ?_, U, RSl.evo (fun _ _ _ _ _ _ h => h) (O.then I) htw2⟩; rw [hck, hdr, gT D (fun h => y ((htt k htk).2 ((mW hk').1 h))) hro (by omega), List.take_succ_eq_append_getElem hk', AN]
  refine bJ (bD (bD (bI (aB ?_)))); refine csr (cL (wan (aS (cQ rfl rfl rfl ?_))))
  obtain rfl : k = ds.length := by omega
  rw [List.drop_length, rC] at hck
  exact ⟨by rw [hck] <;> rfl, E⟩
abbrev qU : ByteArray := ByteArray.mk #[108, 101, 110, 116]
abbrev jM : LB := (qU, ByteArray.empty)
abbrev m77 : Smp := ⟨77, 0, false⟩
def RSerX : Rel SD := fun X w vs s => ∃ la lc pa pc, vs = [.slice la s.1.length lc, .slice pa s.2.length pc] ∧ RSl 2 RLB X w (.slice la (s.1.length + 2) lc) (s.1 ++ [jM, jM]) ∧ RSl 3 RSmp X w (.slice pa (s.2.length + 2) pc) (s.2 ++ [m77, m77])
theorem RSerX.pers : RSerX.Pers := fun _ _ _ _ _ he ⟨la, lc, pa, pc, h, h1, h2⟩ => ⟨la, lc, pa, pc, h, h1.evo RLB.pers he, h2.evo RSmp.pers he⟩
theorem RSerX.fresh : RSerX.Fresh := fun _ _ _ _ _ hy ⟨la, lc, pa, pc, h, h1, h2⟩ => ⟨la, lc, pa, pc, h, h1.fresh (by decide) RLB.fresh hy, h2.fresh (by decide) RSmp.fresh hy⟩
theorem EW {α : Type} {sz : Nat} {R : Rel α} {X : List Nat} {w : World} {a : Option Addr} {n m c : Nat} {l t : List α} (h : RSl sz R X w (.slice a m c) (l ++ t)) (hl : l.length = n) : RSl sz R X w (.slice a n c) l := by
  obtain ⟨a', c', he, hc, h1⟩ := h
  simp only [Value.slice.injEq] at he
  obtain ⟨rfl, rfl, rfl⟩ := he
  rw [List.length_append] at hc
  refine ⟨a, c, by rw [hl], by omega, fun k hk => ?_⟩
  obtain ⟨b, o, vs, e1, e2, e3, e4, e5⟩ := h1 k (by rw [List.length_append]; omega)
  rw [List.getElem_append_left hk] at e5
  exact ⟨b, o, vs, e1, e2, e3, e4, e5⟩
theorem wG {X : List Nat} {w : World} {v : Value} {ds : List SD} (h : RSl 2 RSerX X w v ds) : RSl 2 RSer X w v ds := by
  obtain ⟨a, c, h1, h2, h3⟩ := h
  refine ⟨a, c, h1, h2, fun k hk => ?_⟩
  obtain ⟨b, o, vs, e1, e2, e3, e4, la, lc, pa, pc, e5, e6, e7⟩ := h3 k hk
  exact ⟨b, o, vs, e1, e2, e3, e4, _, _, e5, EW e6 rfl, EW e7 rfl⟩
theorem IZ {X : List Nat} {w : World} {la : Option Addr} {n lc : Nat} {ls : List LB} (h : RSl 2 RLB X w (.slice la n lc) (ls ++ [jM, jM])) : ∃ b o, la = some ⟨b, o, none⟩ ∧ b ∉ X ∧ ls.length + 2 ≤ lc ∧ ∀ i, i < 2 → CellsAt w b (o + (ls.length + i) * 2) [.string qU, .string ByteArray.empty] := by
  obtain ⟨a', c', he, hc, h1⟩ := h
  simp only [Value.slice.injEq] at he
  obtain ⟨rfl, rfl, rfl⟩ := he
  have hl : (ls ++ [jM, jM]).length = ls.length + 2 := by simp
  obtain ⟨b, o, vs, e1, e2, -, -, -⟩ := h1 ls.length (by omega)
  refine ⟨b, o, e1, e2, by omega, fun i hi => ?_⟩
  obtain ⟨b', o', vs', f1, -, -, f4, f5⟩ := h1 (ls.length + i) (by omega)
  rw [e1] at f1
  cases f1
  have hd : (ls ++ [jM, jM])[ls.length + i] = jM := by
    rw [List.getElem_append_right (by omega)]
    obtain rfl | rfl : i = 0 ∨ i = 1 := by omega
    · simp
    · simp
  rw [hd] at f5
  rw [f5.1] at f4
  exact f4
theorem IY {X : List Nat} {w : World} {la : Option Addr} {n lc : Nat} {ls : List Smp} (h : RSl 3 RSmp X w (.slice la n lc) (ls ++ [m77, m77])) : ∃ b o, la = some ⟨b, o, none⟩ ∧ b ∉ X ∧ ls.length + 2 ≤ lc ∧ ∀ i, i < 2 → CellsAt w b (o + (ls.length + i) * 3) [.int .i64 77, .float .f64 0, .bool false] := by
  obtain ⟨a', c', he, hc, h1⟩ := h
  simp only [Value.slice.injEq] at he
  obtain ⟨rfl, rfl, rfl⟩ := he
  have hl : (ls ++ [m77, m77]).length = ls.length + 2 := by simp
  obtain ⟨b, o, vs, e1, e2, -, -, -⟩ := h1 ls.length (by omega)
  refine ⟨b, o, e1, e2, by omega, fun i hi => ?_⟩
  obtain ⟨b', o', vs', f1, -, -, f4, f5⟩ := h1 (ls.length + i) (by omega)
  rw [e1] at f1
  cases f1
  have hd : (ls ++ [m77, m77])[ls.length + i] = m77 := by
    rw [List.getElem_append_right (by omega)]
    obtain rfl | rfl : i = 0 ∨ i = 1 := by omega
    · simp
    · simp
  rw [hd] at f5
  rw [f5.1] at f4
  exact f4
theorem CG (z : Array Value) (m : Nat) : gW z (m + 1) = z.toList ++ gW z m := by simp [gW, List.replicate_succ]
theorem JV {w w' : World} {e : TypeId} {a : Option Addr} {n c k g : Nat} {A vs : List Value} {z : Array Value} {ob : Option Nat} {cur : Array Value} {U : TypeId} (h : OwnS w e 2 a n c (A ++ gW z (n - k)) ob) (hg : ob = some g) (hb : w.heap[g]? = some (.cells cur U (0, 0))) (hA : A.length = k * 2) (hk : k < n) (hz : z.size = 2) (hv : vs.length = 2)
    (hb' : w'.heap[g]? = some (.cells (cur.toList.take (0 + k * 2) ++ vs ++ cur.toList.drop (0 + k * 2 + 2)).toArray U (0, 0))) : OwnS w' e 2 a n c ((A ++ vs) ++ gW z (n - (k + 1))) ob := by
  have h1 := OwnS.put h hg hb (o := 0 + k * 2) (by omega) hk hv hb'
  have e1 : oF (A ++ gW z (n - k)) (0 + k * 2) vs = (A ++ vs) ++ gW z (n - (k + 1)) := by
    have hl : z.toList.length = 2 := by simpa using hz
    rw [show n - k = (n - (k + 1)) + 1 by omega, CG]
    unfold oF
    rw [Nat.zero_add, ← hA, List.take_left, hv, List.drop_append, List.drop_of_length_le (by omega), show A.length + 2 - A.length = 2 by omega, ← hl, List.drop_left]
    simp
  rw [e1] at h1
  exact h1
theorem vR {P : Program} {σ : Env} {w : World} {dst : Option Nat} {T : TypeId} {pos : String} {after : Array Edge} {g : Option (Nat × Bool)} {x hi mx : Operand} {t e : TypeId} {sz len c h b o : Nat} {a : Option Addr} {hv mv : Int} (hx : σ.ev x = some (.slice a len c)) (hhi : σ.ev hi = some (.int .i64 hv)) (hmx : σ.ev mx = some (.int .i64 mv)) (ht : P.underlying t = some (.slice e)) (hs : eS P e = some sz) (ha : a = some ⟨b, o, none⟩) (hh : hv = (h : Nat)) (hm : mv = (h : Nat)) (h0 : 0 < h) (hhc : h ≤ c) :
    Ex P σ ⟨dst, .slice t x none (some hi) (some mx), T, pos, after, g⟩ w (.slice (some ⟨b, o, none⟩) h h) w := fun ρ hρ => by
  subst ha hh hm
  obtain ⟨inf, hin, hsz⟩ := Option.map_eq_some_iff.1 hs
  have hb : (Instr.sliceBounds true len c none (some (.int .i64 (h : Nat))) (some (.int .i64 (h : Nat)))).run P w = .ok (0, h, h) w := by
    simp [Instr.sliceBounds, Instr.sliceBound, asIntOf, hhc]
  have had : (⟨b, o, none⟩ : Addr).add 0 = ⟨b, o, none⟩ := by unfold Addr.add; split <;> simp_all
  have hne : ¬ h = 0 := by omega
  simp only [execOp, hρ x _ hx, Option.map_some, Option.map_none, hρ hi _ hhi, hρ mx _ hmx, Instr.sliceAt, run_underlying ht, Sem.run_bind, Result.andThen_ok, Instr.slice, hb]
  simp [sizeOf, typeInfo, hin, hb, had, hne]
theorem yX : dC Tryz.prog 15 := ⟨_, Tryz.func15, by kernel_rfl, by kernel_rfl⟩
theorem yW : dC Tryz.prog 17 := ⟨_, Tryz.func17, by kernel_rfl, by kernel_rfl⟩
theorem xK : vJ Tryz.prog 24 = some (45, 2, 48, #[.slice none 0 0, .slice none 0 0]) := by kernel_rfl
theorem zS {X Y : List Nat} {w : World} {v1 v2 : Value} {ds : List SD} (h1 : RSl 2 RSer X w v1 ds) (h2 : RSl 2 RSer Y w v2 ds) (hsm : iL ds) : Calls Tryz.prog 11 #[.agg #[v1], .agg #[v2]] w (Ret fun r w' => r = .bool true ∧ Evo [] w w') := by
  have hsm1 := hsm.1; obtain ⟨a1, c1, rfl, hlc1, e1⟩ := h1; obtain ⟨a2, c2, rfl, hlc2, e2⟩ := h2; refine aU (N := 50) Tryz.func11 rfl rfl rfl ?_; refine csr (dZ rfl rfl fun b2 w1 a4 a5 a6 => ?_); have a7 := a5; refine dZ rfl rfl fun b3 w7 V a8 J => ?_; have a9 := a8; have H := J.blk0 a4; refine wan (aL (csr (wfl rfl bS rfl cA H rfl (aC (aP rfl Tryz.underlying24 rfl) ?_)))); refine wfl rfl bS rfl cA V rfl (aC (aP rfl Tryz.underlying24 rfl) ?_); refine aC (eO rfl rfl) ?_; refine wnn (bP rfl (fun K => ?_) (fun K => ?_))
  ·exact absurd rfl K
  refine aR (aB (aL (csr (wfl rfl bS rfl cA H rfl (aC (aP rfl Tryz.underlying24 rfl) ?_))))); refine aD (wnn (aZ (cH (α := Nat) (0) (fun k => [(16, .int .i64 (k : Nat))]) [(2, _), (3, _), (15, _)] (fun k wr => Evo [] w7 wr ∧ (k ≤ ds.length)) (fun k => ds.length - k) ⟨rfl, trivial⟩ ⟨rfl, rfl, rfl, trivial⟩ ⟨Evo.refl _ _, Nat.zero_le _⟩ ?_))); rintro k wr15 ⟨E, hk⟩; show CW _ _ _ _ [(16, _), (2, _), (3, _), (15, _)] _; have L := (((Evo.refl [] w).then a6).then J).then E; refine csr (aC (cE rfl rfl) ?_); refine wnn (aL (bP rfl (fun a3 => ?_) (fun a3 => ?_)))
  ·have hk' : k < ds.length := by omega
   obtain ⟨b1, o1, vs1, ha1, hb1, -, W, lv1, pv1, rfl, hlv1, hpv1⟩ := e1 k hk'; obtain ⟨b2, o2, vs2, ha2, hb2, -, a0, lv2, pv2, rfl, hlv2, hpv2⟩ := e2 k hk'; refine aR (aB (aL (aZ (csr (aD (wan (aL ?_))))))); refine eG (fun w0 w' => Evo [] w0 w') (by kernel_rfl) (fun A F => ?_); have D := L.then F; have M := F.blk0 (E.blk0 H); have O := F.blk0 (E.blk0 V); refine aet 0 rfl (fun _ hS => aA rfl bS) (Evo.refl [] A) ?_; refine aet 1 rfl (fun _ hS => aF rfl cA (aK (hS.blk0 M) rfl)) (Evo.refl [] A) ?_; refine aet 2 rfl (fun _ hS => aV rfl) (Evo.refl [] A) ?_; refine aet 3 rfl (fun _ hS => aY (n := k) rfl rfl ha1 rfl dA hk') (Evo.refl [] A) ?_; refine aet 4 rfl (fun _ hS => aA rfl bX) (Evo.refl [] A) ?_; refine aet 5 rfl (fun _ hS => aF rfl cG ((W.evo (((D.then hS)).any X) hb1) 0 _ rfl)) (Evo.refl [] A) ?_; refine aet 6 rfl (fun _ hS => aA rfl bS) (Evo.refl [] A) ?_; refine aet 7 rfl (fun _ hS => aF rfl cA (aK (hS.blk0 O) rfl)) (Evo.refl [] A) ?_
   refine aet 8 rfl (fun _ hS => aV rfl) (Evo.refl [] A) ?_; refine aet 9 rfl (fun _ hS => aY (n := k) rfl rfl ha2 rfl dA hk') (Evo.refl [] A) ?_; refine aet 10 rfl (fun _ hS => aA rfl bX) (Evo.refl [] A) ?_; refine aet 11 rfl (fun _ hS => aF rfl cG ((a0.evo (((D.then hS)).any Y) hb2) 0 _ rfl)) (Evo.refl [] A) ?_; refine aN [12] (by kernel_rfl) rfl ⟨?_, trivial⟩; refine aO rfl ?_
   refine aG (vs := [_, _]) yX rfl (tY (hlv1.evo RLB.pers ((D).any X)) (hlv2.evo RLB.pers ((D).any Y)) (by have := (hsm.2 _ (List.getElem_mem hk')).1; omega)) rfl ?_
   rintro _ b4 ⟨rfl, G⟩; have y := (Evo.refl [] A).then G; refine aE (aJ (.inl y) ?_); refine aet 13 rfl (fun _ hS => eI rfl) y ?_; refine aet 14 rfl (fun _ hS => aV rfl) y ?_; refine bH 15 rfl rfl rfl rfl rfl (by kernel_rfl) (by kernel_rfl) (by kernel_rfl) rfl (fun _ hS => aA rfl bS) y ?_; refine bH 16 rfl rfl rfl rfl rfl (by kernel_rfl) (by kernel_rfl) (by kernel_rfl) rfl (fun _ hS => aF rfl cA (aK (hS.blk0 M) rfl)) y ?_; refine bH 17 rfl rfl rfl rfl rfl (by kernel_rfl) (by kernel_rfl) (by kernel_rfl) rfl (fun _ hS => aV rfl) y ?_; refine bH 18 rfl rfl rfl rfl rfl (by kernel_rfl) (by kernel_rfl) (by kernel_rfl) rfl (fun _ hS => aY (n := k) rfl rfl ha1 rfl dA hk') y ?_; refine bH 19 rfl rfl rfl rfl rfl (by kernel_rfl) (by kernel_rfl) (by kernel_rfl) rfl (fun _ hS => aA rfl dP) y ?_; refine bH 20 rfl rfl rfl rfl rfl (by kernel_rfl) (by kernel_rfl) (by kernel_rfl) rfl (fun _ hS => aF rfl dT ((W.evo (((D.then hS)).any X) hb1) 1 _ rfl)) y ?_; refine bH 21 rfl rfl rfl rfl rfl (by kernel_rfl) (by kernel_rfl) (by kernel_rfl) rfl (fun _ hS => aA rfl bS) y ?_; refine bH 22 rfl rfl rfl rfl rfl (by kernel_rfl) (by kernel_rfl) (by kernel_rfl) rfl (fun _ hS => aF rfl cA (aK (hS.blk0 O) rfl)) y ?_; refine bH 23 rfl rfl rfl rfl rfl (by kernel_rfl) (by kernel_rfl) (by kernel_rfl) rfl (fun _ hS => aV rfl) y ?_
   refine bH 24 rfl rfl rfl rfl rfl (by kernel_rfl) (by kernel_rfl) (by kernel_rfl) rfl (fun _ hS => aY (n := k) rfl rfl ha2 rfl dA hk') y ?_; refine bH 25 rfl rfl rfl rfl rfl (by kernel_rfl) (by kernel_rfl) (by kernel_rfl) rfl (fun _ hS => aA rfl dP) y ?_; refine bH 26 rfl rfl rfl rfl rfl (by kernel_rfl) (by kernel_rfl) (by kernel_rfl) rfl (fun _ hS => aF rfl dT ((a0.evo (((D.then hS)).any Y) hb2) 1 _ rfl)) y ?_; refine aN [27] (by kernel_rfl) rfl ⟨?_, trivial⟩; refine aO rfl ?_; refine aW ?_
   refine aG (vs := [_, _]) yW rfl (tX (hpv1.evo RSmp.pers (((D.then G)).any X)) (hpv2.evo RSmp.pers (((D.then G)).any Y)) (by have := (hsm.2 _ (List.getElem_mem hk')).2; omega)) rfl ?_
   rintro _ b5 ⟨rfl, U⟩; have I := y.then U; refine aE (aJ (.inl I) ?_); refine bH 28 rfl rfl rfl rfl rfl (by kernel_rfl) (by kernel_rfl) (by kernel_rfl) rfl (fun _ hS => eI rfl) I ?_; refine aet 29 rfl (fun _ hS => dO rfl rfl) I ?_; refine bN (by kernel_rfl) (aB ?_); refine cY rfl ?_; refine aR (bC (aB (aQ ?_))); refine aC (aT rfl rfl (by omega) (by omega)) ?_; refine aD (aE (aM ?_)); refine ⟨k + 1, ?_, ⟨rfl, trivial⟩, ⟨rfl, rfl, rfl, trivial⟩, (((E.then F).then G).then U), ?_⟩
   · omega
   omega
  refine bJ (bD (bD (bI (aB ?_)))); refine csr (wan (aS (br1 ?_))); exact ⟨rfl, L⟩
theorem lent_ok {X : List Nat} {w : World} {v : Value} {ds : List SD} (hs : RSl 2 RSerX X w v ds) (hsm : iL ds) : Calls Tryz.prog 12 #[.agg #[v]] w (Ret fun r w' => r = .bool true ∧ Evo [] w w') := by
  have hsm1 := hsm.1; obtain ⟨sa, sc, rfl, hlc, e1⟩ := hs; refine aU (N := 75) Tryz.func12 rfl rfl rfl ?_; refine csr (dZ rfl rfl fun b1 w1 K L M => ?_); have O := L; refine wan (aL (csr (wfl rfl bS rfl cA K rfl (aC (aP rfl Tryz.underlying24 rfl) ?_)))); refine aD (wnn (aZ (cH (α := Nat) (0) (fun k => [(10, .int .i64 (k : Nat))]) [(8, _), (9, _)] (fun k wr => Evo [] w1 wr ∧ (k ≤ ds.length)) (fun k => ds.length - k) ⟨rfl, trivial⟩ ⟨rfl, rfl, trivial⟩ ⟨Evo.refl _ _, Nat.zero_le _⟩ ?_))); rintro k wr7 ⟨F, hk⟩; show CW _ _ _ _ [(10, _), (8, _), (9, _)] _; have E := ((Evo.refl [] w).then M).then F; refine csr (aC (cE rfl rfl) ?_); refine wnn (aL (bP rfl (fun I => ?_) (fun I => ?_)))
  ·have hk' : k < ds.length := by omega
   have hsk := hsm.2 _ (List.getElem_mem hk'); obtain ⟨b1x, o1, vs1, ha1, hb1, -, U, la, lc, pa, pc, rfl, hla, hpa⟩ := e1 k hk'; obtain ⟨bl, ol, hla1, hbl, hlc1, hlx⟩ := IZ hla; obtain ⟨bp, op, hpa1, hbp, hpc1, hpx⟩ := IY hpa; refine aR (aB (aL (aZ (csr (aC (aY (n := k) rfl rfl ha1 rfl dA hk') ?_))))); refine aC (dQ rfl gN dU (vs := [_, _]) rfl (U.evo ((E).any X) hb1)) ?_; refine dE rfl iC fun b4 W J D G => ?_; have V := D; refine bT rfl rfl dU J rfl rfl ⟨by first | rfl | assumption, by first | rfl | assumption, trivial⟩ fun Y y H => ?_; have A := (E.then G).step H (Ge.new E D).mem1; refine wnn (csr (wfl rfl bX rfl cG y rfl (wfl rfl bX rfl cG y rfl (aC (aP rfl Tryz.underlying42 rfl) ?_)))); refine aC (aT rfl rfl (by omega) (by omega)) ?_; refine wfl rfl bX rfl cG y rfl (aC (aP rfl Tryz.underlying42 rfl) ?_); refine aC (aT rfl rfl (by omega) (by omega)) ?_; refine aC (vR (h := ds[k].1.length + 2) rfl rfl rfl Tryz.underlying42 cI hla1 (by omega) (by omega) (by omega) hlc1) ?_; refine wan (csr ?_)
   refine wfl rfl dP rfl dT y rfl (wfl rfl dP rfl dT y rfl (aC (aP rfl Tryz.underlying43 rfl) ?_)); refine aC (aT rfl rfl (by omega) (by omega)) ?_; refine wfl rfl dP rfl dT y rfl (aC (aP rfl Tryz.underlying43 rfl) ?_); refine aC (aT rfl rfl (by omega) (by omega)) ?_; refine aC (vR (h := ds[k].2.length + 2) rfl rfl rfl Tryz.underlying43 dD hpa1 (by omega) (by omega) (by omega) hpc1) ?_; refine wan (csr (aD (aD (aC (aP rfl Tryz.underlying42 rfl) ?_)))); refine aC (aX rfl rfl (by omega) (by omega)) ?_; refine aC (aY (n := ds[k].1.length + 1) rfl rfl rfl (by omega) bZ (by omega)) ?_; refine aC (aA rfl cD) ?_; refine aC (aF rfl bR (((hlx 1 (by decide)).evo ((A).any X) hbl) 0 _ rfl)) ?_; refine aC (jP (iP rfl rfl) (by simp)) ?_; refine aD (aW (aD (aW (aD (aW (aC (aP rfl Tryz.underlying42 rfl) ?_)))))); refine aW ?_; refine aC (aX rfl rfl (by omega) (by omega)) ?_; refine aW ?_; refine aC (aY (n := ds[k].1.length + 0) rfl rfl rfl (by omega) bZ (by omega)) ?_; refine aW (aC (aA rfl cD) ?_)
   refine aW ?_; refine aC (aF rfl bR (((hlx 0 (by decide)).evo ((A).any X) hbl) 0 _ rfl)) ?_; refine aW ?_; refine aC (jP (iP rfl rfl) (by simp)) ?_; refine bY (aD (aW (aD (aW (aD (aW (aC (aP rfl Tryz.underlying43 rfl) ?_))))))); refine aW ?_; refine aC (aX rfl rfl (by omega) (by omega)) ?_; refine aW ?_; refine aC (aY (n := ds[k].2.length + 1) rfl rfl rfl (by omega) eA (by omega)) ?_; refine aW (aC (aA rfl dG) (aW ?_)); refine aC (aF rfl eD (((hpx 1 (by decide)).evo ((A).any X) hbp) 0 _ rfl)) ?_; refine aW ?_; refine aC (jP (eO rfl rfl) (by simp)) ?_; refine bY (aD (aW (aD (aW (aD (aW (aC (aP rfl Tryz.underlying43 rfl) ?_))))))); refine aW ?_; refine aC (aX rfl rfl (by omega) (by omega)) ?_; refine aW ?_; refine aC (aY (n := ds[k].2.length + 0) rfl rfl rfl (by omega) eA (by omega)) ?_; refine aW (aC (aA rfl dG) (aW ?_)); refine aC (aF rfl eD (((hpx 0 (by decide)).evo ((A).any X) hbp) 0 _ rfl)) ?_; refine aW ?_; refine aC (jP (eO rfl rfl) (by simp)) ?_; refine bY (wnn (cY rfl ?_)); refine aR (bC (aB (aQ ?_))); refine aC (aT rfl rfl (by omega) (by omega)) ?_; refine aD (aE (aM ?_))
   refine ⟨k + 1, ?_, ⟨rfl, trivial⟩, ⟨rfl, rfl, trivial⟩, ((F.then G).step H (Ge.new F D).mem1), ?_⟩
   · omega
   omega
  refine bJ (bD (bD (bI (aB ?_)))); refine csr (wan (aS (br1 ?_))); exact ⟨rfl, E⟩
theorem cp_lab {X Z : List Nat} {w wc : World} {a : Option Addr} {c : Nat} {ls : List LB} {rows : List (List Value)} {ob : Option Nat} (h : OwnS w 58 2 a (0 + ls.length + 2) c (([] ++ rows.flatten) ++ [.string qU, .string ByteArray.empty, .string qU, .string ByteArray.empty]) ob) (hr : RowsOk 2 RLB Z wc rows ls) (hx : ∀ g, ob = some g → g ∉ X) : RSl 2 RLB X w (.slice a (ls.length + 2) c) (ls ++ [jM, jM]) := by
  rw [Nat.zero_add, List.nil_append] at h
  have hr0 : RowsOk 2 RLB X w rows ls := ⟨hr.1, fun k h1 h2 => hr.2 k h1 h2⟩
  have h1 := hY (hY hr0 (r := [.string qU, .string ByteArray.empty]) (e := jM) rfl ⟨rfl, by decide, by decide⟩) (r := [.string qU, .string ByteArray.empty]) (e := jM) rfl ⟨rfl, by decide, by decide⟩
  have h2 := RSl.ofOwn (X := X) (rows := rows ++ [[.string qU, .string ByteArray.empty]] ++ [[.string qU, .string ByteArray.empty]]) (ds := ls ++ [jM] ++ [jM]) (n := ls.length + 2) (by simpa using h) h1 (by simp) hx
  rw [List.append_assoc] at h2
  exact h2
theorem cp_smp {X Z : List Nat} {w wc : World} {a : Option Addr} {c : Nat} {ls : List Smp} {rows : List (List Value)} {ob : Option Nat} (h : OwnS w 50 3 a (0 + ls.length + 2) c (([] ++ rows.flatten) ++ [.int .i64 77, .float .f64 0, .bool false, .int .i64 77, .float .f64 0, .bool false]) ob) (hr : RowsOk 3 RSmp Z wc rows ls) (hx : ∀ g, ob = some g → g ∉ X) : RSl 3 RSmp X w (.slice a (ls.length + 2) c) (ls ++ [m77, m77]) := by
  rw [Nat.zero_add, List.nil_append] at h
  have hr0 : RowsOk 3 RSmp X w rows ls := ⟨hr.1, fun k h1 h2 => hr.2 k h1 h2⟩
  have hm : m77.Ok := ⟨by decide, by decide⟩
  have h1 := hY (hY hr0 (r := [.int .i64 77, .float .f64 0, .bool false]) (e := m77) rfl ⟨rfl, hm⟩) (r := [.int .i64 77, .float .f64 0, .bool false]) (e := m77) rfl ⟨rfl, hm⟩
  have h2 := RSl.ofOwn (X := X) (rows := rows ++ [[.int .i64 77, .float .f64 0, .bool false]] ++ [[.int .i64 77, .float .f64 0, .bool false]]) (ds := ls ++ [m77] ++ [m77]) (n := ls.length + 2) (by simpa using h) h1 (by simp) hx
  rw [List.append_assoc] at h2
  exact h2
theorem IG {X : List Nat} {w : World} {v : Value} {ds : List SD} (hs : RSl 2 RSer X w v ds) (hsm : iL ds) : Calls Tryz.prog 7 #[.agg #[v]] w (Ret fun r w' => ∃ v', r = .agg #[v'] ∧ RSl 2 RSerX [] w' v' ds ∧ Evo [] w w') := by
  have hsm1 := hsm.1; obtain ⟨sa, sc, rfl, hlc, e1⟩ := hs; refine aU (N := 58) Tryz.func7 rfl rfl rfl ?_; refine csr (dZ rfl rfl fun b1 w1 c3 j9 k0 => ?_); have k1 := j9; have f3 := (Evo.refl [] w).then k0; refine dE rfl iD fun b2 w7 f4 i2 c4 => ?_; have k2 := i2; have i8 := Ge.new f3 i2; have a1 := c4.blk0 c3; refine wnn (csr (wfl rfl bS rfl cA a1 rfl (aC (aP rfl Tryz.underlying24 rfl) ?_))); refine wfl rfl bS rfl cA a1 rfl (aC (aP rfl Tryz.underlying24 rfl) ?_); refine aC (aT rfl rfl (by omega) (by omega)) ?_; refine rN (len := ds.length) (c := ds.length + 4) rfl rfl rfl xK (by omega) (by omega) (by omega) (by decide) (by omega) (by omega) fun bc m0 f5 c5 a2 => ?_; have i9 := Apart.new (Lt.blk a1) c5; have j0 := Apart.new (Lt.blk f4) c5; have j1 := Ge.new (f3.then c4) c5; have f6 := (f3.then c4).then a2; refine aC (dR (vs := [(0, _)]) nM rfl (cells := [_]) rfl) ?_; refine dE rfl iD fun b3 m1 j2 a3 a4 => ?_; have k3 := a3; have f7 := Apart.new (Lt.own f5) a3; refine bT rfl rfl cJ j2 rfl rfl ⟨by first | rfl | assumption, trivial⟩ fun m2 j3 a5 => ?_; have f8 := a5.blk (a4.blk0 (a2.blk0 a1)) (Apart.new (Lt.blk (a2.blk0 a1)) a3).nmem1; have j4 := a5.blk (a4.blk0 (a2.blk0 f4)) (Apart.new (Lt.blk (a2.blk0 f4)) a3).nmem1
  refine wnn (aL (csr (wfl rfl bS rfl cA f8 rfl (aC (aP rfl Tryz.underlying24 rfl) ?_)))); refine aD (wnn (aZ ?_)); refine cH (α := Nat) (0) (fun k => [(20, .int .i64 (k : Nat))]) [(2, _), (3, _), (18, _), (19, _)] (fun k wr => Evo [] w wr ∧ (k ≤ ds.length ∧ (∃ rows, OwnS wr 45 2 (some ⟨bc, 0, none⟩) ds.length (ds.length + 4) (List.flatten rows ++ gW #[.slice none 0 0, .slice none 0 0] (ds.length - k)) (some bc) ∧ RowsOk 2 RSerX [b2, bc] wr rows (ds.take k)) ∧ wr.heap[b1]? = some (.cells #[.slice sa ds.length sc] 26 (0, 0)) ∧ wr.heap[b2]? = some (.cells #[.slice none 0 0] 26 (0, 0)) ∧ wr.heap[b3]? = some (.cells #[.slice (some ⟨bc, 0, none⟩) ds.length (ds.length + 4)] 26 (0, 0)) ∧ Ge w (some bc) ∧ Ge w (some b2) ∧ Apart (some b1) (some bc) ∧ Apart (some b2) (some bc) ∧ Apart (some b3) (some bc))) (fun k => ds.length - k) ⟨rfl, trivial⟩ ⟨rfl, rfl, rfl, rfl, trivial⟩ ⟨((f6.then a4).step a5 (Ge.new f6 a3).mem1), ⟨Nat.zero_le _, ⟨[], by simpa using ((f5.evo0 a4).evo a5 f7.own1), rfl, fun k h => by simp at h⟩, f8, j4, j3, j1, i8, i9, j0, f7.symm⟩⟩ ?_; rintro k wr45 ⟨a6, ⟨hk, ⟨rows, hCS, hrk⟩, i3, c3, f9, hGc, i4, i5, g0, i6⟩⟩; show CW _ _ _ _ [(20, _), (2, _), (3, _), (18, _), (19, _)] _; have c6 := Evo.refl ([b2, bc]) wr45
  have hrl : (List.flatten rows).length = k * 2 := by have h8 := hCS.length; rw [List.length_append, pO, show (#[.slice none 0 0, .slice none 0 0] : Array Value).size = 2 from rfl] at h8; omega
  refine csr (aC (cE rfl rfl) ?_); refine wnn (aL (bP rfl (fun j5 => ?_) (fun j5 => ?_)))
  ·have hk' : k < ds.length := by omega
   have hsk := hsm.2 _ (List.getElem_mem hk'); obtain ⟨b1, o1, vs1, ha1, hb1, -, k4, lv1, pv1, rfl, hlv1, hpv1⟩ := e1 k hk'; have hlv1o := hlv1.one; have hpv1o := hpv1.one; obtain ⟨la, lc, hle, -, -⟩ := id hlv1; obtain ⟨pa, pc, hpe, -, -⟩ := id hpv1; subst hle; subst hpe; refine aR (aB (aL (aZ (csr (aD (aC (aY (n := k) rfl rfl ha1 rfl dA hk') ?_)))))); refine aC (dQ rfl gN dU (vs := [_, _]) rfl (k4.evo ((a6).any X) hb1)) ?_; refine dE rfl iC fun b5 m3 j6 U W => ?_; have k5 := U; refine cL ?_; refine bT rfl rfl dU j6 rfl rfl ⟨by first | rfl | assumption, by first | rfl | assumption, trivial⟩ fun m4 g1 Y => ?_; have c7 := (a6.then W).step Y (Ge.new a6 U).mem1; have a7 := (c6.then W).step Y (Ge.new c6 U).mem1; have c8 := (hCS.evo0 W).evo Y (Apart.new (Lt.own hCS) U).own1; have c9 := Y.blk (W.blk0 i3) (Apart.new (Lt.blk i3) U).nmem1; have d0 := Y.blk (W.blk0 c3) (Apart.new (Lt.blk c3) U).nmem1; have d1 := Y.blk (W.blk0 f9) (Apart.new (Lt.blk f9) U).nmem1; refine wnn (csr (cK (vs := []) rfl gY rfl rfl rfl rfl fun m5 m6 j7 M G => ?_)); have g2 := Apart.new (Lt.own c8) M; have g3 := Apart.new (Lt.blk c9) M; have g4 := Apart.new (Lt.blk d0) M; have g5 := Apart.new (Lt.blk d1) M; have g6 := Apart.new (Lt.blk g1) M; have d2 := c7.then G; have d3 := G.blk0 g1; refine aC (aA rfl bX) ?_
   refine aC (aF rfl cG (aK d3 rfl)) ?_; obtain ⟨rowsL, hrowsL, hsrcL⟩ := RSl.rows (P := Tryz.prog) hlv1 ((d2).any X) RLB.one; refine dB rfl rfl rfl rfl jY j7 hsrcL (by omega) fun axL cxL m7 oxL hOxL V hob98 => ?_; have g7 := g2.app (Lt.own (c8.evo0 G)) hob98; have d4 := g4.app (Lt.blk (G.blk0 d0)) hob98; refine aC (dR (vs := [(0, _)]) iS rfl (cells := [_, _]) rfl) ?_; refine aC (dR (vs := [(0, _)]) iS rfl (cells := [_, _]) rfl) ?_; refine cK (vs := [_, _]) rfl gY rfl rfl rfl rfl fun l0 l1 g8 k8 J => ?_; have d5 := ((c8.evo0 G).evo V g2.own).evo0 J; have d6 := J.blk0 (V.blk (G.blk0 d0) g4.nmem); refine dB rfl rfl rfl rfl jY (hOxL.evo0 J) (Src.ofOwn g8 ⟨rfl, rfl, rfl, rfl, trivial⟩) (by omega) fun ayL cyL l2 oyL hOyL O hob140 => ?_; have d7 := g7.app (Lt.own d5) hob140; have h0 := d4.app (Lt.blk d6) hob140; have a8 := ((d2.step V (Ge.new c7 M).mem).then J).step O ((Ge.new c7 M).app d2 hob98).mem; have a0 := (((a7.then G).step V (Ge.new a7 M).mem).then J).step O ((Ge.new a7 M).app (a7.then G) hob98).mem; have a9 := d5.evo O g7.own; have b4 := O.blk (J.blk0 (V.blk (G.blk0 c9) g3.nmem)) (g3.app (Lt.blk (G.blk0 c9)) hob98).nmem; have b6 := O.blk d6 d4.nmem; have b7 := O.blk (J.blk0 (V.blk (G.blk0 d1) g5.nmem)) (g5.app (Lt.blk (G.blk0 d1)) hob98).nmem; have d8 := O.blk (J.blk0 (V.blk d3 g6.nmem)) (g6.app (Lt.blk d3) hob98).nmem; refine wan ?_
   refine csr (cK (vs := []) rfl iR rfl rfl rfl rfl fun l3 l4 h1 F A => ?_); have d9 := Apart.new (Lt.own a9) F; have e0 := Apart.new (Lt.blk b4) F; have e2 := Apart.new (Lt.blk b6) F; have e3 := Apart.new (Lt.blk b7) F; have e4 := Apart.new (Lt.blk d8) F; have e5 := Apart.new (Lt.own hOyL) F; have b8 := a8.then A; have b9 := A.blk0 d8; refine wfl rfl dP rfl dT b9 rfl ?_; obtain ⟨rowsP, hrowsP, hsrcP⟩ := RSl.rows (P := Tryz.prog) hpv1 ((b8).any X) RSmp.one; refine dB rfl rfl rfl rfl mL h1 hsrcP (by omega) fun axP cxP l5 oxP hOxP K hob184 => ?_; have e6 := d9.app (Lt.own (a9.evo0 A)) hob184; have e7 := e2.app (Lt.blk (A.blk0 b6)) hob184; refine aC (dR (vs := [(0, _)]) fL rfl (cells := [_, _, _]) rfl) ?_; refine aC (dR (vs := [(0, _)]) fL rfl (cells := [_, _, _]) rfl) ?_; refine cK (vs := [_, _]) rfl iR rfl rfl rfl rfl fun l6 l7 h2 k9 H => ?_; have e8 := ((a9.evo0 A).evo K d9.own).evo0 H; have e9 := H.blk0 (K.blk (A.blk0 b6) e2.nmem); refine dB rfl rfl rfl rfl mL (hOxP.evo0 H) (Src.ofOwn h2 ⟨rfl, rfl, rfl, rfl, rfl, rfl, trivial⟩) (by omega) fun ayP cyP l8 oyP hOyP L hob230 => ?_; have f0 := e6.app (Lt.own e8) hob230; have h3 := e7.app (Lt.blk e9) hob230; have c0 := (((hOyL.evo0 A).evo K e5.own).evo0 H).evo L (e5.app (Lt.own (hOyL.evo0 A)) hob184).own; refine cL ?_
   refine wnn ?_; have hle1 := (c0).le; have hle2 := (hOyP).le; refine eG (fun w0 w' => Evo [] w0 w') (by kernel_rfl) (fun D E => ?_); have c1 := (e8.evo L e6.own).evo0 E; have f1 := E.blk0 (L.blk (H.blk0 (K.blk (A.blk0 b7) e3.nmem)) (e3.app (Lt.blk (A.blk0 b7)) hob184).nmem); have f2 := E.blk0 (L.blk (H.blk0 (K.blk b9 e4.nmem)) (e4.app (Lt.blk b9) hob184).nmem); refine aet 0 rfl (fun _ hS => aA rfl bS) (Evo.refl [] D) ?_; refine aet 1 rfl (fun _ hS => aF rfl cA (aK (hS.blk0 f1) rfl)) (Evo.refl [] D) ?_; refine aet 2 rfl (fun _ hS => aV rfl) (Evo.refl [] D) ?_; refine aet 3 rfl (fun _ hS => aV rfl) (Evo.refl [] D) ?_; refine aet 4 rfl (fun _ hS => aA rfl bX) (Evo.refl [] D) ?_; refine aet 5 rfl (fun _ hS => aF rfl cG (aK (hS.blk0 f2) rfl)) (Evo.refl [] D) ?_; refine aet 6 rfl (fun _ hS => aP rfl Tryz.underlying42 rfl) (Evo.refl [] D) ?_; refine aet 7 rfl (fun _ hS => AW (h := ds[k].1.length) ((c0.evo0 E).evo0 hS) rfl rfl Tryz.underlying42 cI rfl (by omega)) (Evo.refl [] D) ?_
   refine aet 8 rfl (fun _ hS => aV rfl) (Evo.refl [] D) ?_; refine aet 9 rfl (fun _ hS => aA rfl dP) (Evo.refl [] D) ?_; refine aet 10 rfl (fun _ hS => aF rfl dT (aK (hS.blk0 f2) rfl)) (Evo.refl [] D) ?_; refine aet 11 rfl (fun _ hS => aP rfl Tryz.underlying43 rfl) (Evo.refl [] D) ?_; refine aet 12 rfl (fun _ hS => AW (h := ds[k].2.length) ((hOyP.evo0 E).evo0 hS) rfl rfl Tryz.underlying43 dD rfl (by omega)) (Evo.refl [] D) ?_; refine aet 13 rfl (fun _ hS => dR (vs := [(0, _), (1, _)]) kQ rfl (cells := [_, _]) rfl) (Evo.refl [] D) ?_; refine aet 14 rfl (fun _ hS => aY (n := k) rfl rfl rfl rfl dA hk') (Evo.refl [] D) ?_; refine aN [15] (by kernel_rfl) rfl ⟨?_, trivial⟩; refine aO rfl ?_
   obtain ⟨g9, cur9, hg9, hx9, hcu9, hcs9, -⟩ := c1.at (by omega)
   cases hx9
   refine pP (n := 2) rfl rfl dU rfl (fun u hu => AllOne.mem (l := [_, _]) ⟨rfl, rfl, trivial⟩ u hu) hcu9 (by have h8 := (c1).le; rw [hcs9]; omega) fun j8 h4 I => ?_
   replace I := tA hg9 I; have h5 := JV c1 hg9 hcu9 hrl hk' rfl rfl h4
   have h6 := (((((a0.then A).step K (Ge.new a0 F).mem).then H).step L ((Ge.new a0 F).app (a0.then A) hob184).mem).then E).step I (fun y hy => .inl (by simp at hy; simp [hy]))
   refine aE (aJ (.inr (by kernel_rfl)) ?_); refine bN (by kernel_rfl) (bC (aB ?_)); refine aQ ?_; refine aC (aT rfl rfl (by omega) (by omega)) ?_; refine aD (aE (aM ?_)); refine ⟨k + 1, ?_, ⟨rfl, trivial⟩, ⟨rfl, rfl, rfl, rfl, trivial⟩, (((((b8.step K (Ge.new a8 F).mem).then H).step L ((Ge.new a8 F).app b8 hob184).mem).then E).step I hGc.mem), ?_⟩
   · omega
   have hmv := vB RSerX.pers RSerX.fresh hrk h6 (fun y hy => .inl hy); have k6 := ((c0.evo0 E).evo I d7.symm.own); have k7 := ((hOyP.evo0 E).evo I f0.symm.own)
   have hnL : ∀ g, oyL = some g → g ∉ [b2, bc] := fun g hg hm => by rcases List.mem_cons.1 hm with h9 | h9; exact h0.symm g hg (by rw [h9]); exact d7.symm g hg (by rw [List.mem_singleton.1 h9])
   have hnP : ∀ g, oyP = some g → g ∉ [b2, bc] := fun g hg hm => by rcases List.mem_cons.1 hm with h9 | h9; exact h3.symm g hg (by rw [h9]); exact f0.symm g hg (by rw [List.mem_singleton.1 h9])
   have hrX : RSerX [b2, bc] j8 [.slice ayL ds[k].1.length cyL, .slice ayP ds[k].2.length cyP] ds[k] := ⟨ayL, cyL, ayP, cyP, rfl, cp_lab k6 hrowsL hnL, cp_smp k7 hrowsP hnP⟩; refine ⟨by omega, ⟨rows ++ [[.slice ayL ds[k].1.length cyL, .slice ayP ds[k].2.length cyP]], ?_, ?_⟩, (I.blk (E.blk0 (L.blk (H.blk0 (K.blk (A.blk0 b4) e0.nmem)) (e0.app (Lt.blk (A.blk0 b4)) hob184).nmem)) i5.nmem), (I.blk (E.blk0 (L.blk e9 e7.nmem)) g0.nmem), (I.blk f1 i6.nmem), hGc, i4, i5, g0, i6⟩
   · rw [List.flatten_append, List.flatten_singleton]; exact h5
   · rw [List.take_succ_eq_append_getElem hk']; exact hY hmv rfl hrX
  refine bJ (bD (bD (bI (aB ?_)))); refine csr (aC (cV rfl dJ cJ f9 rfl) ?_); refine bT rfl rfl cJ c3 rfl rfl ⟨by first | rfl | assumption, trivial⟩ fun l9 h7 c2 => ?_; have i0 := a6.step c2 i4.mem1
  have i1 := c6.step c2 (fun y hy => .inl (by simp at hy; simp [hy]))
  refine wnn (aS (tL rfl (ResOk.cellA rfl dJ cJ h7 rfl) ?_))
  obtain rfl : k = ds.length := by omega
  rw [List.take_length] at hrk; have i7 := (hCS.evo c2 g0.symm.own1); rw [Nat.sub_self, show gW #[.slice none 0 0, .slice none 0 0] 0 = [] from rfl, List.append_nil] at i7; exact ⟨_, rfl, RSl.ofOwn i7 (vB RSerX.pers RSerX.fresh hrk i1 (fun y hy => by cases hy)) rfl (by simp), i0⟩
end Go.Proofs.YtlpdhbmhbjjnhaaGreatDoor
namespace Go.Proofs.YtlpdhbmhbjjnhaaGreatDoor
open Go.Lib Go.RowKit Go.Sort Go.W
attribute [local irreducible] Decidable.decide
theorem BU : dC Tryz.prog 5 := ⟨_, Tryz.func5, by kernel_rfl, by kernel_rfl⟩
theorem BS : dC Tryz.prog 6 := ⟨_, Tryz.func6, by kernel_rfl, by kernel_rfl⟩
end Go.Proofs.YtlpdhbmhbjjnhaaGreatDoor
namespace Go.Proofs.YtlpdhbmhbjjnhaaGreatDoor
open Go.RowKit Go.W
attribute [local irreducible] Decidable.decide
theorem zC : jE Tryz.prog 22 = some 1 := by kernel_rfl
theorem yZ : dC Tryz.prog 11 := ⟨_, Tryz.func11, by kernel_rfl, by kernel_rfl⟩
theorem yY : dC Tryz.prog 12 := ⟨_, Tryz.func12, by kernel_rfl, by kernel_rfl⟩
theorem BR : dC Tryz.prog 7 := ⟨_, Tryz.func7, by kernel_rfl, by kernel_rfl⟩
theorem BQ : dC Tryz.prog 8 := ⟨_, Tryz.func8, by kernel_rfl, by kernel_rfl⟩
def RDs2 : Rel (List SD) := fun X w vs d => ∃ sv, vs = [sv] ∧ RSl 2 RSer X w sv d ∧ d.length ≤ 140737488355328 ∧ ∀ s, s ∈ d → s.1.length ≤ 140737488355328 ∧ s.2.length ≤ 140737488355328
theorem oR : ∀ {ds : List SD} {seen : List ByteArray} {n i : Nat}, (eN seen n i ds).2 = 0 → (eN seen n i ds).1 = 0
  | [], _, _, _, _ => rfl
  | d :: ds, seen, n, i, h => by
    by_cases h1 : eF d.1 ≠ 0
    · rw [kG h1] at h; exact absurd h h1
    by_cases h2 : bstr (fE d.1) ∈ seen
    · rw [kH h1 h2] at h; cases h
    by_cases h3 : fU d.2
    · by_cases h4 : 100000 < n + d.2.length
      · rw [jH h1 h2 h3 h4] at h; cases h
      · rw [gT h1 h2 h3 h4] at h ⊢
        exact oR h
    · rw [kF h1 h2 h3] at h; cases h
theorem LN {ds : List SD} (h : (chk ds).2 = 0) : (chk ds).1 = 0 := by
  by_cases h1 : 1000 < ds.length
  · rw [oP h1] at h; cases h
  · rw [oQ h1] at h ⊢
    exact oR h
theorem HS {w : World} {v : Value} {ds : List SD} (hs : RSl 2 RSer [] w v ds) (hsm : iL ds) (hP : P10 w) (hT : Tab w) :
    Calls Tryz.prog 10 #[.agg #[v]] w (Ret fun r w' => ∃ p : Option Addr, r = .tuple #[.pointer p, .int .i64 ((chk ds).1 : Nat), iv3 (chk ds).2] ∧ (p = none ↔ ¬ (chk ds).2 = 0) ∧ Evo [] w w') := by
  refine (FG hs hsm hP hT).mono ?_
  rintro e w' ⟨v, rfl, hE, ⟨h1, rfl⟩ | ⟨h1, b, ob, es, rfl, -, -, -, -⟩⟩
  · exact ⟨_, rfl, none, rfl, ⟨fun _ => h1, fun _ => rfl⟩, hE⟩
  · exact ⟨_, rfl, some ⟨b, 0, none⟩, by rw [LN h1, h1]; rfl, ⟨fun h => by (cases h), fun h => absurd h1 h⟩, hE⟩
theorem ex_eqPd {P : Program} {σ : Env} {w : World} {dst : Option Nat} {T : TypeId} {pos : String} {after : Array Edge} {g : Option (Nat × Bool)} {x y : Operand} {t t' : TypeId} {p : Option Addr} {q : Prop} (inst : Decidable q) (hx : σ.ev x = some (.pointer p)) (hy : σ.ev y = some (.pointer none)) (h : P.underlying t = some (.pointer (P.pointee t))) (hq : p = none ↔ q) : Ex P σ ⟨dst, .binOp .eql t x y t', T, pos, after, g⟩ w (.bool (decide q)) w := by
  cases p with
  | none => rw [decide_eq_true (hq.1 rfl)]; exact ex_eqPn hx hy h
  | some a => rw [decide_eq_false (fun h => by have := hq.2 h; cases this)]; exact wU hx hy h
theorem DX {w : World} {v : Value} {dss : List (List SD)} (hs : RSl 1 RDs2 [] w v dss) (hl : dss.length ≤ 140737488355328) (hP : P10 w) (hT : Tab w) : Calls Tryz.prog 3 #[v] w (Ret fun r w' => r = .bool true ∧ Evo [] w w') := by
  obtain ⟨sa, sc, rfl, hlc, e1⟩ := hs; refine aU (N := 76) Tryz.func3 rfl rfl rfl ?_; refine csr (wan (aL (csr ?_))); refine aG (vs := []) BU rfl (LU (hP.evo (Evo.refl [] w) (by simp)) (hT.evo (Evo.refl [] w) (by simp))) rfl ?_; rintro _ w1 ⟨rfl, b7⟩; refine aC (eI rfl) ?_; refine wnn (cY rfl ?_); refine aR (aB (aL (csr (aD (aC (aP rfl Tryz.underlying22 rfl) ?_))))); refine aD (wnn (aZ (cH (α := Nat) (0) (fun k => [(17, .int .i64 (k : Nat))]) [(15, _), (16, _)] (fun k wr => Evo [] w wr ∧ (k ≤ dss.length)) (fun k => dss.length - k) ⟨rfl, trivial⟩ ⟨rfl, rfl, trivial⟩ ⟨((Evo.refl [] w).then b7), Nat.zero_le _⟩ ?_))); rintro k wr4 ⟨Y, hk⟩; show CW _ _ _ _ [(17, _), (15, _), (16, _)] _; refine csr (aC (cE rfl rfl) ?_); refine wnn (aL (bP rfl (fun a7 => ?_) (fun a7 => ?_)))
  ·have hk' : k < dss.length := by omega
   obtain ⟨b1, o1, vs1, ha1, hb1, -, b8, sv, rfl, hd, hd1, hd2⟩ := e1 k hk'; have hsv := hd.one; refine aR (aB (aL (aZ (csr (aC (aY (n := k) rfl rfl ha1 rfl zC hk') ?_))))); refine aC (dQ rfl dJ cJ (vs := [_]) rfl (b8.evo Y hb1)) ?_; refine dE rfl iD fun b4 w6 b9 a5 c0 => ?_; have c1 := a5; refine bT rfl rfl cJ b9 rfl rfl ⟨by first | rfl | assumption, trivial⟩ fun c3 I a8 => ?_; have a0 := (Y.then c0).step a8 (Ge.new Y a5).mem1; refine wnn (aL (csr (aC (cV rfl dJ cJ I rfl) (aG (vs := [_]) BS rfl (KU (hd.evo RSer.pers a0) hd1 hd2) rfl ?_)))); rintro _ c4 ⟨bg, rfl, hsm, J⟩; have F := a0.then J; refine wnn (dX rfl (fun y => ?_) (fun y => ?_))
   ·refine bJ (bD (bI (aB ?_))); refine aQ ?_; refine aC (aT rfl rfl (by omega) (by omega)) ?_; refine aD (aE (aM ?_)); refine ⟨k + 1, ?_, ⟨rfl, trivial⟩, ⟨rfl, rfl, trivial⟩, F, ?_⟩
    · omega
    omega
   refine aR (aB (csr (aC (cV rfl dJ cJ (J.blk0 I) rfl) (aG (vs := [_]) BR rfl (IG (hd.evo RSer.pers F) (hsm y)) rfl ?_)))); rintro _ a6 ⟨cv, rfl, hcx, K⟩; have a1 := K.blk0 (J.blk0 I); have hcv := hcx.one; refine dE rfl iD fun b5 c5 a9 G L => ?_; have c2 := G; refine bT rfl rfl cJ a9 rfl rfl ⟨by first | rfl | assumption, trivial⟩ fun c6 a2 M => ?_; have O := ((F.then K).then L).step M (Ge.new (F.then K) G).mem1; have a3 := M.blk (L.blk0 a1) (Apart.new (Lt.blk a1) G).nmem1; refine wnn (csr (aC (cV rfl dJ cJ a3 rfl) (aG (vs := [_]) BQ rfl (GZ (hsm y) (hd.evo RSer.pers O)) rfl ?_))); rintro _ c7 ⟨rfl, A⟩; have U := (((Evo.refl [] a6).then L).step M (Ge.new (Evo.refl [] a6) G).mem1).then A; refine aD (aC (cB rfl rfl) ?_); refine aC (cB rfl rfl) ?_; refine cL (wan (csr (aC (cV rfl dJ cJ (A.blk0 a2) rfl) ?_))); refine aG (vs := [_]) rI rfl (BH ((wG hcx).evo RSer.pers U) (hsm y) (hP.evo (O.then A) (by simp))) rfl ?_; rintro _ c8 ⟨rfl, E⟩; have H := (O.then A).then E; have V := E.blk0 (A.blk0 a2); refine aD (aC (cB rfl rfl) ?_); refine aC (cB rfl rfl) ?_; refine cL (wan ?_)
   refine csr (aC (cV rfl dJ cJ V rfl) ?_); refine aG (vs := [_]) pJ rfl (HS ((wG hcx).evo RSer.pers (U.then E)) (hsm y) (hP.evo H (by simp)) (hT.evo H (by simp))) rfl ?_; rintro _ c9 ⟨p, rfl, hpn, D⟩; have a4 := (U.then E).then D; refine aD (aC (cB rfl rfl) ?_); refine aC (cB rfl rfl) ?_; refine aC (cB rfl rfl) ?_; refine cL (cL (wan (aL (csr (aD (aD ?_)))))); refine aC (jP (eO rfl rfl) (by simp)) ?_; refine aD (aW (aD (aW (aD (aW ?_))))); refine aC (jP (eO rfl rfl) (by simp)) ?_; refine bY (aD (aW (aD (aW (aD (aW ?_)))))); refine aC (jP (eO rfl rfl) (by simp)) ?_; refine bY (aD (aW (aD (aW (aD (aW ?_)))))); refine aC (jP (eO rfl rfl) (by simp)) ?_; refine bY (aD (aW (aD (aW (aC (ex_eqPd (q := ¬ (chk dss[k]).2 = 0) inferInstance rfl rfl tQ hpn) ?_))))); refine aW (aD (aW (aC (eO rfl rfl) ?_))); refine aW ?_; refine aC (jP (FQ rfl rfl Tryz.underlying4) (by simp)) ?_; refine bY (wnn (cY rfl ?_)); refine aR (aB (csr ?_))
   refine aC (cV rfl dJ cJ (D.blk0 V) rfl) (aC (cV rfl dJ cJ (D.blk0 (E.blk0 (A.blk0 a3))) rfl) (aG (vs := [_, _]) yZ rfl (zS ((wG hcx).evo RSer.pers a4) (hd.evo RSer.pers (H.then D)) (hsm y)) rfl ?_)); rintro _ d0 ⟨rfl, W⟩; refine aC (eI rfl) ?_; refine aD (aW (aC (cV rfl dJ cJ (W.blk0 (D.blk0 V)) rfl) (aW (aG (vs := [_]) yY rfl (lent_ok (hcx.evo RSerX.pers (a4.then W)) (hsm y)) rfl ?_)))); rintro _ d1 ⟨rfl, b6⟩; refine aW (aC (eI rfl) ?_); refine bY (wnn (cY rfl ?_)); refine aR (bC (aB (aQ ?_))); refine aC (aT rfl rfl (by omega) (by omega)) ?_; refine aD (aE (aM ?_)); refine ⟨k + 1, ?_, ⟨rfl, trivial⟩, ⟨rfl, rfl, trivial⟩, (((H.then D).then W).then b6), ?_⟩
   · omega
   omega
  refine bJ (bD (bD (bI (aB ?_)))); refine csr (wan (aS (br1 ?_))); exact ⟨rfl, Y⟩
end Go.Proofs.YtlpdhbmhbjjnhaaGreatDoor
namespace Go.Proofs.YtlpdhbmhbjjnhaaGreatDoor
open Go.ChangeAt Go.ChangeShapes Go.RowKit Go.W Go.WideShapes
theorem KB : jB Tryz.prog 22 (IM 1 24 RDs) := kD Tryz.underlying22 (by kernel_rfl) (by kernel_rfl) (by decide) opensDs
theorem dss_of {X : List Nat} {w : World} {v : Value} {ds : List (List SD)} (h : RSl 1 RDs X w v ds) : RSl 1 RDs2 X w v ds := by
  obtain ⟨a, c, h1, h2, h3⟩ := h
  refine ⟨a, c, h1, h2, fun k hk => ?_⟩
  obtain ⟨b, o, vs, e1, e2, e3, e4, sv, e5, e6, e7⟩ := h3 k hk
  obtain ⟨h8, h9⟩ := rser_of e6
  exact ⟨b, o, vs, e1, e2, e3, e4, sv, e5, h8, e7, h9⟩
set_option maxRecDepth 100000 in
theorem LL (H : Type) (enc : TypeId × Value → H) (W : World) (base : Nat) (args : Array Value) (ds gs : List (DataW H)) (before : List MemPlace)
    (hval : ∀ (j : Nat) t v, Tryz.f3.params[j]? = some t → args[j]? = some v → Value.okWide Tryz.prog W .any base t v)
    (hW : DataW.Whole enc Tryz.prog Tryz.f3.params.toList Rows.storeChecksSpec.vars false W args.toList ds gs before)
    (hsz : (DataW.weightsEach Tryz.prog (Tryz.f3.params.toList ++ Rows.storeChecksSpec.plain.varTypes Tryz.prog) (ds ++ gs)).all (· ≤ reachBytes) = true) (hL : laidMetH Tryz.prog laidL W) :
    Calls Tryz.prog 3 args W fun e W' => ∃ v, e = .returned v ∧ Rows.storeChecksSpec.post enc Tryz.prog Tryz.f3 false true false false W args v W' := by
  have hW' := hW
  obtain ⟨p, q, y, hV, rfl, hfz, hnd⟩ := hW
  have hA : DataW.TrodAll enc Tryz.prog W 0 (fun _ => true) true Tryz.f3.params.toList args.toList ds p := y
  rw [Tryz.params3] at hA hval hsz
  obtain ⟨v0, vs0, d0, ds0, p0, q0, hargs0, rfl, rfl, h0, r0⟩ := trodAll_cons hA
  obtain ⟨A, rfl, rfl⟩ := trodAll_nil r0
  subst A
  obtain rfl : args = #[v0] := by cases args; simp_all
  obtain ⟨rfl, rfl⟩ := trodVars_none hV
  have k0 := h0
  have lt0 : ∀ x ∈ p0, x.block < W.heap.size := by obtain ⟨m, hm⟩ := k0; exact DataW.trod_lt m _ _ _ hm
  obtain ⟨l0, D, hb0⟩ := came Tryz.underlying22 KB (hval 0 22 _ rfl rfl) h0 (fun n hn => by have := List.all_eq_true.1 hsz n (DataW.weights_mem_each (j := 0) rfl rfl n hn); simpa using this)
  have hP := tableP hL
  have hT := table hL
  refine (DX (dss_of D) (by omega) hP hT).mono fun e W' ⟨v, he, hv, bel⟩ => ?_
  subst he hv
  exact ⟨_, rfl, _, _, _, [], _, [], hW', trodAll_mk1 (shut_bool Tryz.underlying4 _), (trodAll_cons_mk (Below.trod laidOut (by kernel_rfl) (of_decide_eq_true (by kernel_rfl)) k0 bel.below lt0) trodAll_mk0), rfl, bel.below.frame _, fun h => by cases h⟩
theorem KN (os : Os) : laidMet Tryz.prog laidL ((pW os).forCall (fun _ _ => 0) ⟨#[], #[.slice none 0 0], []⟩).memory :=
  laidMet_of_run' 8 (by kernel_rfl) (by kernel_rfl)
theorem reads (os : Os) {H : Type} (enc : TypeId × Value → H) : ∃ places, DataW.whole enc Tryz.prog ((pW os).forCall (fun _ _ => 0) ⟨#[], #[.slice none 0 0], []⟩).memory Tryz.f3.params.toList Rows.storeChecksSpec.vars false (#[.slice none 0 0] : Array Value).toList 8 = some ([.nil], [], places) :=
  ⟨[], by kernel_rfl⟩
set_option maxRecDepth 100000 in
theorem lifted (os : Os) (started : os.Started) (H : Type) (enc : TypeId × Value → H) (F : Stop.Interp) :
    ReturnsInHanded {} Tryz.checked os 3 .any ((OpenSpec.ofChange Rows.storeChecksSpec).preRow enc Tryz.prog Tryz.f3 Rows.storeChecksRow.domain false Rows.storeChecksRow.laid) (((OpenSpec.ofChange Rows.storeChecksSpec).at F).post enc Tryz.prog Tryz.f3 false true false false) := by
  obtain ⟨places, hx⟩ := reads os enc
  refine returnsInHanded_of_row (C := Tryz.checked) (s := OpenSpec.ofChange Rows.storeChecksSpec) own started (by kernel_rfl) Tryz.func3
    (witness_row_at (enc := enc) (C := Tryz.checked) false (pW os) #[.slice none 0 0] rfl (by kernel_rfl) (by kernel_rfl) (by kernel_rfl)
      (OpenSpec.preRow_of_cond 8 hx (by kernel_rfl) (fun k hk => by cases hk) (by kernel_rfl) (KN os))) ?_
  intro W base args ds gs before hval hW _ _ hsz hL _ _
  exact LL H enc W base args ds gs before hval hW hsz hL
theorem said : Rows.StoreChecksSaid :=
  OpenClaim.holds_of_cond 3 Tryz.f3 rfl rfl rfl rfl rfl rfl rfl ⟨rfl, rfl, rfl, rfl, rfl⟩ rfl rfl rfl rfl rfl (by kernel_rfl) Tryz.func3 (by kernel_rfl)
    (of_decide_eq_true (by kernel_rfl)) (by unfold Func.isWrapper; first | (rw [if_pos (by decide +kernel)]; kernel_rfl) | (rw [if_neg (by decide +kernel)]; exact ⟨rfl, rfl⟩))
    (fun os started H enc _ F => by rw [OpenClaim.pre_eq_preRow]; exact lifted os started H enc F)
theorem plain (f : FuncId) (fn : Func) (hf : Tryz.pinned.checked.prog.funcNamed "weir/weirlaw19.StoreChecks" = some f) (hfn : Tryz.pinned.checked.prog.funcs[f]? = some fn) :
    false = Tryz.pinned.checked.prog.looks [] ∧ ∀ (j : Nat) t, fn.params[j]? = some t → Tryz.pinned.checked.prog.wantsStandIn t = false := by
  obtain rfl : f = 3 := Option.some.inj ((show Tryz.prog.funcNamed "weir/weirlaw19.StoreChecks" = some 3 by kernel_rfl).symm.trans hf) |>.symm
  obtain rfl : fn = Tryz.f3 := (Option.some.inj (Tryz.func3.symm.trans hfn)).symm
  refine ⟨HR, fun j t ht => ?_⟩
  rw [Tryz.params3] at ht
  rcases j with _ | j
  · obtain rfl : t = 22 := by simpa using ht.symm
    exact (show Tryz.prog.wantsStandIn 22 = false by kernel_rfl)
  · simp at ht
theorem storeChecks_card : Rows.StoreChecksCardSaid :=
  Claim7.holds_tied_plain_at .later [] _ _ _ _ said (fun _ h => by cases h) (by kernel_rfl) (fun _ h => by cases h) storeChecks_row_tie rfl ⟨rfl, rfl⟩ (by kernel_rfl) rfl plain (by kernel_rfl)
#print axioms storeChecks_card
end Go.Proofs.YtlpdhbmhbjjnhaaGreatDoor
