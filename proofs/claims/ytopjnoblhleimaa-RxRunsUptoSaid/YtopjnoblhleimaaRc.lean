/- The walks of what looks at a place: word bytes, what an instruction asks, ranges; in the program and in the reference. -/
import Derived.Test.YtopjnoblhleimaaSd
import Derived.Test.YtopjnoblhleimaaRb
import Derived.Test.YtopjnoblhleimaaRa
namespace Go.Proofs.Ytopjnoblhleimaa
open Go.Proofs
open Go.W
attribute [local irreducible] Decidable.decide
set_option linter.unusedSimpArgs false
set_option linter.unusedVariables false
theorem Try.fld114_1 : fieldB Try.prog 114 1 = some 4 := by kernel_rfl
theorem Try.goes47 : Goes Try.prog 47 := ⟨_, Try.func47, by kernel_rfl, by kernel_rfl⟩
theorem Try.goes83 : Goes Try.prog 83 := ⟨_, Try.func83, by kernel_rfl, by kernel_rfl⟩


def WordC (c : Int) : Prop := c = 95 ∨ (48 ≤ c ∧ c ≤ 57) ∨ (97 ≤ c ∧ c ≤ 122) ∨ (65 ≤ c ∧ c ≤ 90)
instance (c : Int) : Decidable (WordC c) := by unfold WordC; infer_instance
/-- A word byte stands there. -/
def WordAt (s : ByteArray) (i : Int) : Prop := 0 ≤ i ∧ i < s.size ∧ WordC (sb s i.toNat)
instance (s : ByteArray) (i : Int) : Decidable (WordAt s i) := by unfold WordAt; infer_instance
theorem wordAt_nat {s : ByteArray} {a : Nat} (h : a < s.size) : WordAt s a ↔ WordC (sb s a) := ⟨fun h => by have := h.2.2; simpa using this, fun k => ⟨by omega, by omega, by simpa using k⟩⟩
/-- What may be passed. -/
def Stands (op arg : Int) (s : ByteArray) (a : Nat) : Prop :=
  (op = 5 ∧ a = 0) ∨ (op = 6 ∧ a = s.size) ∨ (op = 7 ∧ (a = 0 ∨ sb s (a - 1) = 10)) ∨ (op = 8 ∧ (a = s.size ∨ sb s a = 10)) ∨ (op = 9 ∧ (¬ (WordAt s ((a : Int) - 1) ↔ WordAt s a) ↔ arg = 0)) ∨ op = 10
instance (op arg : Int) (s : ByteArray) (a : Nat) : Decidable (Stands op arg s a) := by unfold Stands; infer_instance
/-- In one of the ranges. -/
def Inside (r : Int) (rs : List (Int × Int)) : Prop := ∃ q, q ∈ rs ∧ q.1 ≤ r ∧ r ≤ q.2
instance (r : Int) (rs : List (Int × Int)) : Decidable (Inside r rs) := by unfold Inside; infer_instance
theorem stands_5 {arg : Int} {s : ByteArray} {a : Nat} : Stands 5 arg s a ↔ a = 0 := by simp [Stands]
theorem stands_6 {arg : Int} {s : ByteArray} {a : Nat} : Stands 6 arg s a ↔ a = s.size := by simp [Stands]
theorem stands_7 {arg : Int} {s : ByteArray} {a : Nat} : Stands 7 arg s a ↔ (a = 0 ∨ sb s (a - 1) = 10) := by simp [Stands]
theorem stands_8 {arg : Int} {s : ByteArray} {a : Nat} : Stands 8 arg s a ↔ (a = s.size ∨ sb s a = 10) := by simp [Stands]
theorem stands_9 {arg : Int} {s : ByteArray} {a : Nat} : Stands 9 arg s a ↔ (¬ (WordAt s ((a : Int) - 1) ↔ WordAt s a) ↔ arg = 0) := by simp only [Stands]; simp
theorem stands_o {op arg : Int} {s : ByteArray} {a : Nat} (h5 : op ≠ 5) (h6 : op ≠ 6) (h7 : op ≠ 7) (h8 : op ≠ 8) (h9 : op ≠ 9) : Stands op arg s a ↔ op = 10 := by simp [Stands, h5, h6, h7, h8, h9]

theorem wordByte_ok {w : World} (c : Int) : Calls Try.prog 83 #[.int .u8 c] w (Ret fun v w' => v = .bool (decide (WordC c)) ∧ Evo [] w w') := by
  refine calls_of_cw (N := 29) Try.func83 rfl rfl rfl ?_
  refine cw_seq ?_
  refine cw_region ?_
  refine wl_val rfl (ex_assign rfl) ?_
  refine wl_nil (nrm_then ?_)
  refine cw_seq ?_
  refine cw_region ?_
  refine wl_val rfl (ex_move rfl) ?_
  refine wl_val rfl (ex_eql rfl rfl) ?_
  refine wl_val rfl (ex_move rfl) ?_
  refine wl_split (t := 5) rfl (fun hs5 => ?_) (fun hs5 => ?_)
  · skip
    refine wl_no rfl rfl rfl rfl rfl rfl ?_
    refine wl_no rfl rfl rfl rfl rfl rfl ?_
    refine wl_no rfl rfl rfl rfl rfl rfl ?_
    refine wl_nou rfl rfl rfl rfl rfl ?_
    refine wl_nou rfl rfl rfl rfl rfl ?_
    refine wl_no rfl rfl rfl rfl rfl rfl ?_
    refine wl_val rfl (ex_pick_t rfl rfl) ?_
    refine wl_val rfl (ex_move rfl) ?_
    refine wl_no rfl rfl rfl rfl rfl rfl ?_
    refine wl_no rfl rfl rfl rfl rfl rfl ?_
    refine wl_no rfl rfl rfl rfl rfl rfl ?_
    refine wl_nou rfl rfl rfl rfl rfl ?_
    refine wl_nou rfl rfl rfl rfl rfl ?_
    refine wl_no rfl rfl rfl rfl rfl rfl ?_
    refine wl_val rfl (ex_pick_t rfl rfl) ?_
    refine wl_val rfl (ex_move rfl) ?_
    refine wl_no rfl rfl rfl rfl rfl rfl ?_
    refine wl_no rfl rfl rfl rfl rfl rfl ?_
    refine wl_no rfl rfl rfl rfl rfl rfl ?_
    refine wl_nou rfl rfl rfl rfl rfl ?_
    refine wl_nou rfl rfl rfl rfl rfl ?_
    refine wl_no rfl rfl rfl rfl rfl rfl ?_
    refine wl_val rfl (ex_pick_t rfl rfl) ?_
    refine wl_val rfl (ex_assign rfl) ?_
    refine wl_nil (nrm_then ?_)
    refine cw_ret (body_ret1 rfl rfl ?_)
    exact ⟨congrArg Value.bool (by first | exact decide_eq_decide.2 (by unfold WordC; omega) | exact (decide_eq_true (by unfold WordC; omega)).symm | exact (decide_eq_false (by unfold WordC; omega)).symm), (Evo.refl [] w)⟩
  · skip
    refine wl_go rfl rfl rfl rfl ?_
    refine wl_val rfl (ex_move rfl) ?_
    refine wl_go rfl rfl rfl rfl ?_
    refine wl_val rfl (ex_geq rfl rfl) ?_
    refine wl_go rfl rfl rfl rfl ?_
    refine wl_val rfl (ex_move rfl) ?_
    refine wl_split (t := 8) rfl (fun hs8 => ?_) (fun hs8 => ?_)
    · skip
      refine wl_go rfl rfl rfl rfl ?_
      refine wl_val rfl (ex_move rfl) ?_
      refine wl_go rfl rfl rfl rfl ?_
      refine wl_val rfl (ex_leq rfl rfl) ?_
      refine wl_go rfl rfl rfl rfl ?_
      refine wl_val rfl (ex_pick_t rfl rfl) ?_
      refine wl_val rfl (ex_pick_f rfl rfl) ?_
      refine wl_val rfl (ex_move rfl) ?_
      refine wl_split (t := 13) rfl (fun hs13 => ?_) (fun hs13 => ?_)
      · skip
        refine wl_no rfl rfl rfl rfl rfl rfl ?_
        refine wl_no rfl rfl rfl rfl rfl rfl ?_
        refine wl_no rfl rfl rfl rfl rfl rfl ?_
        refine wl_nou rfl rfl rfl rfl rfl ?_
        refine wl_nou rfl rfl rfl rfl rfl ?_
        refine wl_no rfl rfl rfl rfl rfl rfl ?_
        refine wl_val rfl (ex_pick_t rfl rfl) ?_
        refine wl_val rfl (ex_move rfl) ?_
        refine wl_no rfl rfl rfl rfl rfl rfl ?_
        refine wl_no rfl rfl rfl rfl rfl rfl ?_
        refine wl_no rfl rfl rfl rfl rfl rfl ?_
        refine wl_nou rfl rfl rfl rfl rfl ?_
        refine wl_nou rfl rfl rfl rfl rfl ?_
        refine wl_no rfl rfl rfl rfl rfl rfl ?_
        refine wl_val rfl (ex_pick_t rfl rfl) ?_
        refine wl_val rfl (ex_assign rfl) ?_
        refine wl_nil (nrm_then ?_)
        refine cw_ret (body_ret1 rfl rfl ?_)
        exact ⟨congrArg Value.bool (by first | exact decide_eq_decide.2 (by unfold WordC; omega) | exact (decide_eq_true (by unfold WordC; omega)).symm | exact (decide_eq_false (by unfold WordC; omega)).symm), (Evo.refl [] w)⟩
      · skip
        refine wl_go rfl rfl rfl rfl ?_
        refine wl_val rfl (ex_move rfl) ?_
        refine wl_go rfl rfl rfl rfl ?_
        refine wl_val rfl (ex_geq rfl rfl) ?_
        refine wl_go rfl rfl rfl rfl ?_
        refine wl_val rfl (ex_move rfl) ?_
        refine wl_split (t := 16) rfl (fun hs16 => ?_) (fun hs16 => ?_)
        · skip
          refine wl_go rfl rfl rfl rfl ?_
          refine wl_val rfl (ex_move rfl) ?_
          refine wl_go rfl rfl rfl rfl ?_
          refine wl_val rfl (ex_leq rfl rfl) ?_
          refine wl_go rfl rfl rfl rfl ?_
          refine wl_val rfl (ex_pick_t rfl rfl) ?_
          refine wl_val rfl (ex_pick_f rfl rfl) ?_
          refine wl_val rfl (ex_move rfl) ?_
          refine wl_split (t := 21) rfl (fun hs21 => ?_) (fun hs21 => ?_)
          · skip
            refine wl_no rfl rfl rfl rfl rfl rfl ?_
            refine wl_no rfl rfl rfl rfl rfl rfl ?_
            refine wl_no rfl rfl rfl rfl rfl rfl ?_
            refine wl_nou rfl rfl rfl rfl rfl ?_
            refine wl_nou rfl rfl rfl rfl rfl ?_
            refine wl_no rfl rfl rfl rfl rfl rfl ?_
            refine wl_val rfl (ex_pick_t rfl rfl) ?_
            refine wl_val rfl (ex_assign rfl) ?_
            refine wl_nil (nrm_then ?_)
            refine cw_ret (body_ret1 rfl rfl ?_)
            exact ⟨congrArg Value.bool (by first | exact decide_eq_decide.2 (by unfold WordC; omega) | exact (decide_eq_true (by unfold WordC; omega)).symm | exact (decide_eq_false (by unfold WordC; omega)).symm), (Evo.refl [] w)⟩
          · skip
            refine wl_go rfl rfl rfl rfl ?_
            refine wl_val rfl (ex_move rfl) ?_
            refine wl_go rfl rfl rfl rfl ?_
            refine wl_val rfl (ex_geq rfl rfl) ?_
            refine wl_go rfl rfl rfl rfl ?_
            refine wl_val rfl (ex_move rfl) ?_
            refine wl_split (t := 24) rfl (fun hs24 => ?_) (fun hs24 => ?_)
            · skip
              refine wl_go rfl rfl rfl rfl ?_
              refine wl_val rfl (ex_move rfl) ?_
              refine wl_go rfl rfl rfl rfl ?_
              refine wl_val rfl (ex_leq rfl rfl) ?_
              refine wl_go rfl rfl rfl rfl ?_
              refine wl_val rfl (ex_pick_t rfl rfl) ?_
              refine wl_val rfl (ex_pick_f rfl rfl) ?_
              refine wl_val rfl (ex_assign rfl) ?_
              refine wl_nil (nrm_then ?_)
              refine cw_ret (body_ret1 rfl rfl ?_)
              exact ⟨congrArg Value.bool (by first | exact decide_eq_decide.2 (by unfold WordC; omega) | exact (decide_eq_true (by unfold WordC; omega)).symm | exact (decide_eq_false (by unfold WordC; omega)).symm), (Evo.refl [] w)⟩
            · skip
              refine wl_no rfl rfl rfl rfl rfl rfl ?_
              refine wl_no rfl rfl rfl rfl rfl rfl ?_
              refine wl_go rfl rfl rfl rfl ?_
              refine wl_val rfl (ex_pick_f rfl rfl) ?_
              refine wl_val rfl (ex_pick_f rfl rfl) ?_
              refine wl_val rfl (ex_assign rfl) ?_
              refine wl_nil (nrm_then ?_)
              refine cw_ret (body_ret1 rfl rfl ?_)
              exact ⟨congrArg Value.bool (by first | exact decide_eq_decide.2 (by unfold WordC; omega) | exact (decide_eq_true (by unfold WordC; omega)).symm | exact (decide_eq_false (by unfold WordC; omega)).symm), (Evo.refl [] w)⟩
        · skip
          refine wl_no rfl rfl rfl rfl rfl rfl ?_
          refine wl_no rfl rfl rfl rfl rfl rfl ?_
          refine wl_go rfl rfl rfl rfl ?_
          refine wl_val rfl (ex_pick_f rfl rfl) ?_
          refine wl_val rfl (ex_pick_f rfl rfl) ?_
          refine wl_val rfl (ex_move rfl) ?_
          refine wl_go rfl rfl rfl rfl ?_
          refine wl_val rfl (ex_move rfl) ?_
          refine wl_go rfl rfl rfl rfl ?_
          refine wl_val rfl (ex_geq rfl rfl) ?_
          refine wl_go rfl rfl rfl rfl ?_
          refine wl_val rfl (ex_move rfl) ?_
          refine wl_split (t := 24) rfl (fun hs24 => ?_) (fun hs24 => ?_)
          · skip
            refine wl_go rfl rfl rfl rfl ?_
            refine wl_val rfl (ex_move rfl) ?_
            refine wl_go rfl rfl rfl rfl ?_
            refine wl_val rfl (ex_leq rfl rfl) ?_
            refine wl_go rfl rfl rfl rfl ?_
            refine wl_val rfl (ex_pick_t rfl rfl) ?_
            refine wl_val rfl (ex_pick_f rfl rfl) ?_
            refine wl_val rfl (ex_assign rfl) ?_
            refine wl_nil (nrm_then ?_)
            refine cw_ret (body_ret1 rfl rfl ?_)
            exact ⟨congrArg Value.bool (by first | exact decide_eq_decide.2 (by unfold WordC; omega) | exact (decide_eq_true (by unfold WordC; omega)).symm | exact (decide_eq_false (by unfold WordC; omega)).symm), (Evo.refl [] w)⟩
          · skip
            refine wl_no rfl rfl rfl rfl rfl rfl ?_
            refine wl_no rfl rfl rfl rfl rfl rfl ?_
            refine wl_go rfl rfl rfl rfl ?_
            refine wl_val rfl (ex_pick_f rfl rfl) ?_
            refine wl_val rfl (ex_pick_f rfl rfl) ?_
            refine wl_val rfl (ex_assign rfl) ?_
            refine wl_nil (nrm_then ?_)
            refine cw_ret (body_ret1 rfl rfl ?_)
            exact ⟨congrArg Value.bool (by first | exact decide_eq_decide.2 (by unfold WordC; omega) | exact (decide_eq_true (by unfold WordC; omega)).symm | exact (decide_eq_false (by unfold WordC; omega)).symm), (Evo.refl [] w)⟩
    · skip
      refine wl_no rfl rfl rfl rfl rfl rfl ?_
      refine wl_no rfl rfl rfl rfl rfl rfl ?_
      refine wl_go rfl rfl rfl rfl ?_
      refine wl_val rfl (ex_pick_f rfl rfl) ?_
      refine wl_val rfl (ex_pick_f rfl rfl) ?_
      refine wl_val rfl (ex_move rfl) ?_
      refine wl_go rfl rfl rfl rfl ?_
      refine wl_val rfl (ex_move rfl) ?_
      refine wl_go rfl rfl rfl rfl ?_
      refine wl_val rfl (ex_geq rfl rfl) ?_
      refine wl_go rfl rfl rfl rfl ?_
      refine wl_val rfl (ex_move rfl) ?_
      refine wl_split (t := 16) rfl (fun hs16 => ?_) (fun hs16 => ?_)
      · skip
        refine wl_go rfl rfl rfl rfl ?_
        refine wl_val rfl (ex_move rfl) ?_
        refine wl_go rfl rfl rfl rfl ?_
        refine wl_val rfl (ex_leq rfl rfl) ?_
        refine wl_go rfl rfl rfl rfl ?_
        refine wl_val rfl (ex_pick_t rfl rfl) ?_
        refine wl_val rfl (ex_pick_f rfl rfl) ?_
        refine wl_val rfl (ex_move rfl) ?_
        refine wl_split (t := 21) rfl (fun hs21 => ?_) (fun hs21 => ?_)
        · skip
          refine wl_no rfl rfl rfl rfl rfl rfl ?_
          refine wl_no rfl rfl rfl rfl rfl rfl ?_
          refine wl_no rfl rfl rfl rfl rfl rfl ?_
          refine wl_nou rfl rfl rfl rfl rfl ?_
          refine wl_nou rfl rfl rfl rfl rfl ?_
          refine wl_no rfl rfl rfl rfl rfl rfl ?_
          refine wl_val rfl (ex_pick_t rfl rfl) ?_
          refine wl_val rfl (ex_assign rfl) ?_
          refine wl_nil (nrm_then ?_)
          refine cw_ret (body_ret1 rfl rfl ?_)
          exact ⟨congrArg Value.bool (by first | exact decide_eq_decide.2 (by unfold WordC; omega) | exact (decide_eq_true (by unfold WordC; omega)).symm | exact (decide_eq_false (by unfold WordC; omega)).symm), (Evo.refl [] w)⟩
        · skip
          refine wl_go rfl rfl rfl rfl ?_
          refine wl_val rfl (ex_move rfl) ?_
          refine wl_go rfl rfl rfl rfl ?_
          refine wl_val rfl (ex_geq rfl rfl) ?_
          refine wl_go rfl rfl rfl rfl ?_
          refine wl_val rfl (ex_move rfl) ?_
          refine wl_split (t := 24) rfl (fun hs24 => ?_) (fun hs24 => ?_)
          · skip
            refine wl_go rfl rfl rfl rfl ?_
            refine wl_val rfl (ex_move rfl) ?_
            refine wl_go rfl rfl rfl rfl ?_
            refine wl_val rfl (ex_leq rfl rfl) ?_
            refine wl_go rfl rfl rfl rfl ?_
            refine wl_val rfl (ex_pick_t rfl rfl) ?_
            refine wl_val rfl (ex_pick_f rfl rfl) ?_
            refine wl_val rfl (ex_assign rfl) ?_
            refine wl_nil (nrm_then ?_)
            refine cw_ret (body_ret1 rfl rfl ?_)
            exact ⟨congrArg Value.bool (by first | exact decide_eq_decide.2 (by unfold WordC; omega) | exact (decide_eq_true (by unfold WordC; omega)).symm | exact (decide_eq_false (by unfold WordC; omega)).symm), (Evo.refl [] w)⟩
          · skip
            refine wl_no rfl rfl rfl rfl rfl rfl ?_
            refine wl_no rfl rfl rfl rfl rfl rfl ?_
            refine wl_go rfl rfl rfl rfl ?_
            refine wl_val rfl (ex_pick_f rfl rfl) ?_
            refine wl_val rfl (ex_pick_f rfl rfl) ?_
            refine wl_val rfl (ex_assign rfl) ?_
            refine wl_nil (nrm_then ?_)
            refine cw_ret (body_ret1 rfl rfl ?_)
            exact ⟨congrArg Value.bool (by first | exact decide_eq_decide.2 (by unfold WordC; omega) | exact (decide_eq_true (by unfold WordC; omega)).symm | exact (decide_eq_false (by unfold WordC; omega)).symm), (Evo.refl [] w)⟩
      · skip
        refine wl_no rfl rfl rfl rfl rfl rfl ?_
        refine wl_no rfl rfl rfl rfl rfl rfl ?_
        refine wl_go rfl rfl rfl rfl ?_
        refine wl_val rfl (ex_pick_f rfl rfl) ?_
        refine wl_val rfl (ex_pick_f rfl rfl) ?_
        refine wl_val rfl (ex_move rfl) ?_
        refine wl_go rfl rfl rfl rfl ?_
        refine wl_val rfl (ex_move rfl) ?_
        refine wl_go rfl rfl rfl rfl ?_
        refine wl_val rfl (ex_geq rfl rfl) ?_
        refine wl_go rfl rfl rfl rfl ?_
        refine wl_val rfl (ex_move rfl) ?_
        refine wl_split (t := 24) rfl (fun hs24 => ?_) (fun hs24 => ?_)
        · skip
          refine wl_go rfl rfl rfl rfl ?_
          refine wl_val rfl (ex_move rfl) ?_
          refine wl_go rfl rfl rfl rfl ?_
          refine wl_val rfl (ex_leq rfl rfl) ?_
          refine wl_go rfl rfl rfl rfl ?_
          refine wl_val rfl (ex_pick_t rfl rfl) ?_
          refine wl_val rfl (ex_pick_f rfl rfl) ?_
          refine wl_val rfl (ex_assign rfl) ?_
          refine wl_nil (nrm_then ?_)
          refine cw_ret (body_ret1 rfl rfl ?_)
          exact ⟨congrArg Value.bool (by first | exact decide_eq_decide.2 (by unfold WordC; omega) | exact (decide_eq_true (by unfold WordC; omega)).symm | exact (decide_eq_false (by unfold WordC; omega)).symm), (Evo.refl [] w)⟩
        · skip
          refine wl_no rfl rfl rfl rfl rfl rfl ?_
          refine wl_no rfl rfl rfl rfl rfl rfl ?_
          refine wl_go rfl rfl rfl rfl ?_
          refine wl_val rfl (ex_pick_f rfl rfl) ?_
          refine wl_val rfl (ex_pick_f rfl rfl) ?_
          refine wl_val rfl (ex_assign rfl) ?_
          refine wl_nil (nrm_then ?_)
          refine cw_ret (body_ret1 rfl rfl ?_)
          exact ⟨congrArg Value.bool (by first | exact decide_eq_decide.2 (by unfold WordC; omega) | exact (decide_eq_true (by unfold WordC; omega)).symm | exact (decide_eq_false (by unfold WordC; omega)).symm), (Evo.refl [] w)⟩

theorem word_ok {w : World} (s : ByteArray) (i : Int) (hl : s.size ≤ 140737488355328) : Calls Try.prog 47 #[.string s, .int .i64 i] w (Ret fun v w' => v = .bool (decide (WordAt s i)) ∧ Evo [] w w') := by
  refine calls_of_cw (N := 43) Try.func47 rfl rfl rfl ?_
  refine cw_seq ?_
  refine cw_region ?_
  refine wl_val rfl (ex_assign rfl) ?_
  refine wl_nil (nrm_then ?_)
  refine cw_seq ?_
  refine cw_seq ?_
  refine cw_region ?_
  refine wl_val rfl (ex_move rfl) ?_
  refine wl_val rfl (ex_lss rfl rfl) ?_
  refine wl_val rfl (ex_move rfl) ?_
  refine wl_split (t := 8) rfl (fun hs8 => ?_) (fun hs8 => ?_)
  · skip
    refine wl_no rfl rfl rfl rfl rfl rfl ?_
    refine wl_no rfl rfl rfl rfl rfl rfl ?_
    refine wl_no rfl rfl rfl rfl rfl rfl ?_
    refine wl_no rfl rfl rfl rfl rfl rfl ?_
    refine wl_val rfl (ex_pick_t rfl rfl) ?_
    refine wl_nil (nrm_then ?_)
    refine cw_true rfl ?_
    refine cw_seq ?_
    refine cw_region ?_
    refine wl_val rfl (ex_assign rfl) ?_
    refine wl_nil (nrm_then ?_)
    refine cw_ret (ret_then (body_ret1 rfl rfl ?_))
    exact ⟨congrArg Value.bool (decide_eq_false (fun h => by have := h.1; omega)).symm, (Evo.refl [] w)⟩
  · skip
    refine wl_go rfl rfl rfl rfl ?_
    refine wl_val rfl (ex_move rfl) ?_
    refine wl_go rfl rfl rfl rfl ?_
    refine wl_val rfl (ex_move rfl) ?_
    refine wl_go rfl rfl rfl rfl ?_
    refine wl_val rfl (ex_len_str rfl Try.underlying9 rfl) ?_
    refine wl_go rfl rfl rfl rfl ?_
    refine wl_val rfl (ex_geq rfl rfl) ?_
    refine wl_val rfl (ex_pick_f rfl rfl) ?_
    refine wl_nil (nrm_then ?_)
    refine cw_if rfl (fun hc13 => ?_) (fun hc13 => ?_)
    · skip
      refine cw_seq ?_
      refine cw_region ?_
      refine wl_val rfl (ex_assign rfl) ?_
      refine wl_nil (nrm_then ?_)
      refine cw_ret (ret_then (body_ret1 rfl rfl ?_))
      exact ⟨congrArg Value.bool (decide_eq_false (fun h => by have := h.1; have := h.2.1; omega)).symm, (Evo.refl [] w)⟩
    · skip
      refine cw_skip (nrm_then ?_)
      refine cw_seq ?_
      refine cw_region ?_
      have hwa : WordAt s i ↔ WordC (sb s i.toNat) := ⟨fun h => h.2.2, fun h => ⟨by omega, by omega, h⟩⟩
      refine wl_val rfl (ex_move rfl) ?_
      refine wl_val rfl (ex_move rfl) ?_
      refine wl_val rfl (ex_sidx (n := i.toNat) rfl rfl Try.underlying9 (by omega) (by omega)) ?_
      refine wl_val rfl (ex_assign rfl) ?_
      refine wl_nil (nrm_then ?_)
      refine cw_seq ?_
      refine cw_region ?_
      refine wl_val rfl (ex_move rfl) ?_
      refine wl_val rfl (ex_eql rfl rfl) ?_
      refine wl_val rfl (ex_move rfl) ?_
      refine wl_split (t := 19) rfl (fun hs19 => ?_) (fun hs19 => ?_)
      · skip
        refine wl_no rfl rfl rfl rfl rfl rfl ?_
        refine wl_no rfl rfl rfl rfl rfl rfl ?_
        refine wl_no rfl rfl rfl rfl rfl rfl ?_
        refine wl_nou rfl rfl rfl rfl rfl ?_
        refine wl_nou rfl rfl rfl rfl rfl ?_
        refine wl_no rfl rfl rfl rfl rfl rfl ?_
        refine wl_val rfl (ex_pick_t rfl rfl) ?_
        refine wl_val rfl (ex_move rfl) ?_
        refine wl_no rfl rfl rfl rfl rfl rfl ?_
        refine wl_no rfl rfl rfl rfl rfl rfl ?_
        refine wl_no rfl rfl rfl rfl rfl rfl ?_
        refine wl_nou rfl rfl rfl rfl rfl ?_
        refine wl_nou rfl rfl rfl rfl rfl ?_
        refine wl_no rfl rfl rfl rfl rfl rfl ?_
        refine wl_val rfl (ex_pick_t rfl rfl) ?_
        refine wl_val rfl (ex_move rfl) ?_
        refine wl_no rfl rfl rfl rfl rfl rfl ?_
        refine wl_no rfl rfl rfl rfl rfl rfl ?_
        refine wl_no rfl rfl rfl rfl rfl rfl ?_
        refine wl_nou rfl rfl rfl rfl rfl ?_
        refine wl_nou rfl rfl rfl rfl rfl ?_
        refine wl_no rfl rfl rfl rfl rfl rfl ?_
        refine wl_val rfl (ex_pick_t rfl rfl) ?_
        refine wl_val rfl (ex_assign rfl) ?_
        refine wl_nil (nrm_then ?_)
        refine cw_ret (body_ret1 rfl rfl ?_)
        exact ⟨congrArg Value.bool (by first | exact decide_eq_decide.2 (by rw [hwa]; unfold WordC; omega) | exact (decide_eq_true (by rw [hwa]; unfold WordC; omega)).symm | exact (decide_eq_false (by rw [hwa]; unfold WordC; omega)).symm), (Evo.refl [] w)⟩
      · skip
        refine wl_go rfl rfl rfl rfl ?_
        refine wl_val rfl (ex_move rfl) ?_
        refine wl_go rfl rfl rfl rfl ?_
        refine wl_val rfl (ex_geq rfl rfl) ?_
        refine wl_go rfl rfl rfl rfl ?_
        refine wl_val rfl (ex_move rfl) ?_
        refine wl_split (t := 22) rfl (fun hs22 => ?_) (fun hs22 => ?_)
        · skip
          refine wl_go rfl rfl rfl rfl ?_
          refine wl_val rfl (ex_move rfl) ?_
          refine wl_go rfl rfl rfl rfl ?_
          refine wl_val rfl (ex_leq rfl rfl) ?_
          refine wl_go rfl rfl rfl rfl ?_
          refine wl_val rfl (ex_pick_t rfl rfl) ?_
          refine wl_val rfl (ex_pick_f rfl rfl) ?_
          refine wl_val rfl (ex_move rfl) ?_
          refine wl_split (t := 27) rfl (fun hs27 => ?_) (fun hs27 => ?_)
          · skip
            refine wl_no rfl rfl rfl rfl rfl rfl ?_
            refine wl_no rfl rfl rfl rfl rfl rfl ?_
            refine wl_no rfl rfl rfl rfl rfl rfl ?_
            refine wl_nou rfl rfl rfl rfl rfl ?_
            refine wl_nou rfl rfl rfl rfl rfl ?_
            refine wl_no rfl rfl rfl rfl rfl rfl ?_
            refine wl_val rfl (ex_pick_t rfl rfl) ?_
            refine wl_val rfl (ex_move rfl) ?_
            refine wl_no rfl rfl rfl rfl rfl rfl ?_
            refine wl_no rfl rfl rfl rfl rfl rfl ?_
            refine wl_no rfl rfl rfl rfl rfl rfl ?_
            refine wl_nou rfl rfl rfl rfl rfl ?_
            refine wl_nou rfl rfl rfl rfl rfl ?_
            refine wl_no rfl rfl rfl rfl rfl rfl ?_
            refine wl_val rfl (ex_pick_t rfl rfl) ?_
            refine wl_val rfl (ex_assign rfl) ?_
            refine wl_nil (nrm_then ?_)
            refine cw_ret (body_ret1 rfl rfl ?_)
            exact ⟨congrArg Value.bool (by first | exact decide_eq_decide.2 (by rw [hwa]; unfold WordC; omega) | exact (decide_eq_true (by rw [hwa]; unfold WordC; omega)).symm | exact (decide_eq_false (by rw [hwa]; unfold WordC; omega)).symm), (Evo.refl [] w)⟩
          · skip
            refine wl_go rfl rfl rfl rfl ?_
            refine wl_val rfl (ex_move rfl) ?_
            refine wl_go rfl rfl rfl rfl ?_
            refine wl_val rfl (ex_geq rfl rfl) ?_
            refine wl_go rfl rfl rfl rfl ?_
            refine wl_val rfl (ex_move rfl) ?_
            refine wl_split (t := 30) rfl (fun hs30 => ?_) (fun hs30 => ?_)
            · skip
              refine wl_go rfl rfl rfl rfl ?_
              refine wl_val rfl (ex_move rfl) ?_
              refine wl_go rfl rfl rfl rfl ?_
              refine wl_val rfl (ex_leq rfl rfl) ?_
              refine wl_go rfl rfl rfl rfl ?_
              refine wl_val rfl (ex_pick_t rfl rfl) ?_
              refine wl_val rfl (ex_pick_f rfl rfl) ?_
              refine wl_val rfl (ex_move rfl) ?_
              refine wl_split (t := 35) rfl (fun hs35 => ?_) (fun hs35 => ?_)
              · skip
                refine wl_no rfl rfl rfl rfl rfl rfl ?_
                refine wl_no rfl rfl rfl rfl rfl rfl ?_
                refine wl_no rfl rfl rfl rfl rfl rfl ?_
                refine wl_nou rfl rfl rfl rfl rfl ?_
                refine wl_nou rfl rfl rfl rfl rfl ?_
                refine wl_no rfl rfl rfl rfl rfl rfl ?_
                refine wl_val rfl (ex_pick_t rfl rfl) ?_
                refine wl_val rfl (ex_assign rfl) ?_
                refine wl_nil (nrm_then ?_)
                refine cw_ret (body_ret1 rfl rfl ?_)
                exact ⟨congrArg Value.bool (by first | exact decide_eq_decide.2 (by rw [hwa]; unfold WordC; omega) | exact (decide_eq_true (by rw [hwa]; unfold WordC; omega)).symm | exact (decide_eq_false (by rw [hwa]; unfold WordC; omega)).symm), (Evo.refl [] w)⟩
              · skip
                refine wl_go rfl rfl rfl rfl ?_
                refine wl_val rfl (ex_move rfl) ?_
                refine wl_go rfl rfl rfl rfl ?_
                refine wl_val rfl (ex_geq rfl rfl) ?_
                refine wl_go rfl rfl rfl rfl ?_
                refine wl_val rfl (ex_move rfl) ?_
                refine wl_split (t := 38) rfl (fun hs38 => ?_) (fun hs38 => ?_)
                · skip
                  refine wl_go rfl rfl rfl rfl ?_
                  refine wl_val rfl (ex_move rfl) ?_
                  refine wl_go rfl rfl rfl rfl ?_
                  refine wl_val rfl (ex_leq rfl rfl) ?_
                  refine wl_go rfl rfl rfl rfl ?_
                  refine wl_val rfl (ex_pick_t rfl rfl) ?_
                  refine wl_val rfl (ex_pick_f rfl rfl) ?_
                  refine wl_val rfl (ex_assign rfl) ?_
                  refine wl_nil (nrm_then ?_)
                  refine cw_ret (body_ret1 rfl rfl ?_)
                  exact ⟨congrArg Value.bool (by first | exact decide_eq_decide.2 (by rw [hwa]; unfold WordC; omega) | exact (decide_eq_true (by rw [hwa]; unfold WordC; omega)).symm | exact (decide_eq_false (by rw [hwa]; unfold WordC; omega)).symm), (Evo.refl [] w)⟩
                · skip
                  refine wl_no rfl rfl rfl rfl rfl rfl ?_
                  refine wl_no rfl rfl rfl rfl rfl rfl ?_
                  refine wl_go rfl rfl rfl rfl ?_
                  refine wl_val rfl (ex_pick_f rfl rfl) ?_
                  refine wl_val rfl (ex_pick_f rfl rfl) ?_
                  refine wl_val rfl (ex_assign rfl) ?_
                  refine wl_nil (nrm_then ?_)
                  refine cw_ret (body_ret1 rfl rfl ?_)
                  exact ⟨congrArg Value.bool (by first | exact decide_eq_decide.2 (by rw [hwa]; unfold WordC; omega) | exact (decide_eq_true (by rw [hwa]; unfold WordC; omega)).symm | exact (decide_eq_false (by rw [hwa]; unfold WordC; omega)).symm), (Evo.refl [] w)⟩
            · skip
              refine wl_no rfl rfl rfl rfl rfl rfl ?_
              refine wl_no rfl rfl rfl rfl rfl rfl ?_
              refine wl_go rfl rfl rfl rfl ?_
              refine wl_val rfl (ex_pick_f rfl rfl) ?_
              refine wl_val rfl (ex_pick_f rfl rfl) ?_
              refine wl_val rfl (ex_move rfl) ?_
              refine wl_go rfl rfl rfl rfl ?_
              refine wl_val rfl (ex_move rfl) ?_
              refine wl_go rfl rfl rfl rfl ?_
              refine wl_val rfl (ex_geq rfl rfl) ?_
              refine wl_go rfl rfl rfl rfl ?_
              refine wl_val rfl (ex_move rfl) ?_
              refine wl_split (t := 38) rfl (fun hs38 => ?_) (fun hs38 => ?_)
              · skip
                refine wl_go rfl rfl rfl rfl ?_
                refine wl_val rfl (ex_move rfl) ?_
                refine wl_go rfl rfl rfl rfl ?_
                refine wl_val rfl (ex_leq rfl rfl) ?_
                refine wl_go rfl rfl rfl rfl ?_
                refine wl_val rfl (ex_pick_t rfl rfl) ?_
                refine wl_val rfl (ex_pick_f rfl rfl) ?_
                refine wl_val rfl (ex_assign rfl) ?_
                refine wl_nil (nrm_then ?_)
                refine cw_ret (body_ret1 rfl rfl ?_)
                exact ⟨congrArg Value.bool (by first | exact decide_eq_decide.2 (by rw [hwa]; unfold WordC; omega) | exact (decide_eq_true (by rw [hwa]; unfold WordC; omega)).symm | exact (decide_eq_false (by rw [hwa]; unfold WordC; omega)).symm), (Evo.refl [] w)⟩
              · skip
                refine wl_no rfl rfl rfl rfl rfl rfl ?_
                refine wl_no rfl rfl rfl rfl rfl rfl ?_
                refine wl_go rfl rfl rfl rfl ?_
                refine wl_val rfl (ex_pick_f rfl rfl) ?_
                refine wl_val rfl (ex_pick_f rfl rfl) ?_
                refine wl_val rfl (ex_assign rfl) ?_
                refine wl_nil (nrm_then ?_)
                refine cw_ret (body_ret1 rfl rfl ?_)
                exact ⟨congrArg Value.bool (by first | exact decide_eq_decide.2 (by rw [hwa]; unfold WordC; omega) | exact (decide_eq_true (by rw [hwa]; unfold WordC; omega)).symm | exact (decide_eq_false (by rw [hwa]; unfold WordC; omega)).symm), (Evo.refl [] w)⟩
        · skip
          refine wl_no rfl rfl rfl rfl rfl rfl ?_
          refine wl_no rfl rfl rfl rfl rfl rfl ?_
          refine wl_go rfl rfl rfl rfl ?_
          refine wl_val rfl (ex_pick_f rfl rfl) ?_
          refine wl_val rfl (ex_pick_f rfl rfl) ?_
          refine wl_val rfl (ex_move rfl) ?_
          refine wl_go rfl rfl rfl rfl ?_
          refine wl_val rfl (ex_move rfl) ?_
          refine wl_go rfl rfl rfl rfl ?_
          refine wl_val rfl (ex_geq rfl rfl) ?_
          refine wl_go rfl rfl rfl rfl ?_
          refine wl_val rfl (ex_move rfl) ?_
          refine wl_split (t := 30) rfl (fun hs30 => ?_) (fun hs30 => ?_)
          · skip
            refine wl_go rfl rfl rfl rfl ?_
            refine wl_val rfl (ex_move rfl) ?_
            refine wl_go rfl rfl rfl rfl ?_
            refine wl_val rfl (ex_leq rfl rfl) ?_
            refine wl_go rfl rfl rfl rfl ?_
            refine wl_val rfl (ex_pick_t rfl rfl) ?_
            refine wl_val rfl (ex_pick_f rfl rfl) ?_
            refine wl_val rfl (ex_move rfl) ?_
            refine wl_split (t := 35) rfl (fun hs35 => ?_) (fun hs35 => ?_)
            · skip
              refine wl_no rfl rfl rfl rfl rfl rfl ?_
              refine wl_no rfl rfl rfl rfl rfl rfl ?_
              refine wl_no rfl rfl rfl rfl rfl rfl ?_
              refine wl_nou rfl rfl rfl rfl rfl ?_
              refine wl_nou rfl rfl rfl rfl rfl ?_
              refine wl_no rfl rfl rfl rfl rfl rfl ?_
              refine wl_val rfl (ex_pick_t rfl rfl) ?_
              refine wl_val rfl (ex_assign rfl) ?_
              refine wl_nil (nrm_then ?_)
              refine cw_ret (body_ret1 rfl rfl ?_)
              exact ⟨congrArg Value.bool (by first | exact decide_eq_decide.2 (by rw [hwa]; unfold WordC; omega) | exact (decide_eq_true (by rw [hwa]; unfold WordC; omega)).symm | exact (decide_eq_false (by rw [hwa]; unfold WordC; omega)).symm), (Evo.refl [] w)⟩
            · skip
              refine wl_go rfl rfl rfl rfl ?_
              refine wl_val rfl (ex_move rfl) ?_
              refine wl_go rfl rfl rfl rfl ?_
              refine wl_val rfl (ex_geq rfl rfl) ?_
              refine wl_go rfl rfl rfl rfl ?_
              refine wl_val rfl (ex_move rfl) ?_
              refine wl_split (t := 38) rfl (fun hs38 => ?_) (fun hs38 => ?_)
              · skip
                refine wl_go rfl rfl rfl rfl ?_
                refine wl_val rfl (ex_move rfl) ?_
                refine wl_go rfl rfl rfl rfl ?_
                refine wl_val rfl (ex_leq rfl rfl) ?_
                refine wl_go rfl rfl rfl rfl ?_
                refine wl_val rfl (ex_pick_t rfl rfl) ?_
                refine wl_val rfl (ex_pick_f rfl rfl) ?_
                refine wl_val rfl (ex_assign rfl) ?_
                refine wl_nil (nrm_then ?_)
                refine cw_ret (body_ret1 rfl rfl ?_)
                exact ⟨congrArg Value.bool (by first | exact decide_eq_decide.2 (by rw [hwa]; unfold WordC; omega) | exact (decide_eq_true (by rw [hwa]; unfold WordC; omega)).symm | exact (decide_eq_false (by rw [hwa]; unfold WordC; omega)).symm), (Evo.refl [] w)⟩
              · skip
                refine wl_no rfl rfl rfl rfl rfl rfl ?_
                refine wl_no rfl rfl rfl rfl rfl rfl ?_
                refine wl_go rfl rfl rfl rfl ?_
                refine wl_val rfl (ex_pick_f rfl rfl) ?_
                refine wl_val rfl (ex_pick_f rfl rfl) ?_
                refine wl_val rfl (ex_assign rfl) ?_
                refine wl_nil (nrm_then ?_)
                refine cw_ret (body_ret1 rfl rfl ?_)
                exact ⟨congrArg Value.bool (by first | exact decide_eq_decide.2 (by rw [hwa]; unfold WordC; omega) | exact (decide_eq_true (by rw [hwa]; unfold WordC; omega)).symm | exact (decide_eq_false (by rw [hwa]; unfold WordC; omega)).symm), (Evo.refl [] w)⟩
          · skip
            refine wl_no rfl rfl rfl rfl rfl rfl ?_
            refine wl_no rfl rfl rfl rfl rfl rfl ?_
            refine wl_go rfl rfl rfl rfl ?_
            refine wl_val rfl (ex_pick_f rfl rfl) ?_
            refine wl_val rfl (ex_pick_f rfl rfl) ?_
            refine wl_val rfl (ex_move rfl) ?_
            refine wl_go rfl rfl rfl rfl ?_
            refine wl_val rfl (ex_move rfl) ?_
            refine wl_go rfl rfl rfl rfl ?_
            refine wl_val rfl (ex_geq rfl rfl) ?_
            refine wl_go rfl rfl rfl rfl ?_
            refine wl_val rfl (ex_move rfl) ?_
            refine wl_split (t := 38) rfl (fun hs38 => ?_) (fun hs38 => ?_)
            · skip
              refine wl_go rfl rfl rfl rfl ?_
              refine wl_val rfl (ex_move rfl) ?_
              refine wl_go rfl rfl rfl rfl ?_
              refine wl_val rfl (ex_leq rfl rfl) ?_
              refine wl_go rfl rfl rfl rfl ?_
              refine wl_val rfl (ex_pick_t rfl rfl) ?_
              refine wl_val rfl (ex_pick_f rfl rfl) ?_
              refine wl_val rfl (ex_assign rfl) ?_
              refine wl_nil (nrm_then ?_)
              refine cw_ret (body_ret1 rfl rfl ?_)
              exact ⟨congrArg Value.bool (by first | exact decide_eq_decide.2 (by rw [hwa]; unfold WordC; omega) | exact (decide_eq_true (by rw [hwa]; unfold WordC; omega)).symm | exact (decide_eq_false (by rw [hwa]; unfold WordC; omega)).symm), (Evo.refl [] w)⟩
            · skip
              refine wl_no rfl rfl rfl rfl rfl rfl ?_
              refine wl_no rfl rfl rfl rfl rfl rfl ?_
              refine wl_go rfl rfl rfl rfl ?_
              refine wl_val rfl (ex_pick_f rfl rfl) ?_
              refine wl_val rfl (ex_pick_f rfl rfl) ?_
              refine wl_val rfl (ex_assign rfl) ?_
              refine wl_nil (nrm_then ?_)
              refine cw_ret (body_ret1 rfl rfl ?_)
              exact ⟨congrArg Value.bool (by first | exact decide_eq_decide.2 (by rw [hwa]; unfold WordC; omega) | exact (decide_eq_true (by rw [hwa]; unfold WordC; omega)).symm | exact (decide_eq_false (by rw [hwa]; unfold WordC; omega)).symm), (Evo.refl [] w)⟩

theorem inside_ok {X : List Nat} {w : World} {v1 : Value} {rs : List (Int × Int)} (r : Int) (h1 : RSl 2 RRange X w v1 rs) (hl : rs.length ≤ 140737488355328) :
    Calls Try.prog 30 #[.int .i32 r, v1] w (Ret fun v w' => v = .bool (decide (Inside r rs)) ∧ Evo [] w w') := by
  obtain ⟨a1, c1, rfl, hlc1, e1⟩ := h1
  refine calls_of_cw (N := 28) Try.func30 rfl rfl rfl ?_
  refine cw_seq ?_
  refine cw_region ?_
  refine wl_val rfl (ex_assign rfl) ?_
  refine wl_nil (nrm_then ?_)
  refine cw_seq ?_
  refine cw_seq ?_
  refine cw_region ?_
  refine wl_val rfl (ex_assign rfl) ?_
  refine wl_nil (nrm_then ?_)
  refine cw_block ?_
  refine cw_loop (α := Nat) (0) (fun k => [(5, .int .i64 (k : Nat))]) [(0, _), (1, _)] (fun k wr => Evo [] w wr ∧ (k ≤ rs.length ∧ ∀ i (h : i < rs.length), i < k → ¬ (rs[i].1 ≤ r ∧ r ≤ rs[i].2))) (fun k => rs.length - k) ⟨rfl, trivial⟩ ⟨rfl, rfl, trivial⟩ ⟨Evo.refl _ _, ⟨Nat.zero_le _, fun i _ h => by omega⟩⟩ ?_
  rintro k wr1 ⟨hV2, ⟨hk, hno⟩⟩
  show CW _ _ _ _ [(5, _), (0, _), (1, _)] _
  have hE3 := (Evo.refl [] w).then hV2
  refine cw_seq ?_
  refine cw_seq ?_
  refine cw_region ?_
  refine wl_val rfl (ex_move rfl) ?_
  refine wl_val rfl (ex_move rfl) ?_
  refine wl_val rfl (ex_len_slice rfl Try.underlying27 rfl) ?_
  refine wl_val rfl (ex_lss rfl rfl) ?_
  refine wl_nil (nrm_then ?_)
  refine cw_if rfl (fun hc9 => ?_) (fun hc9 => ?_)
  · skip
    refine cw_skip (nrm_then ?_)
    refine cw_seq ?_
    refine cw_block ?_
    refine cw_seq ?_
    refine cw_region ?_
    refine wl_val rfl (ex_move rfl) ?_
    refine wl_val rfl (ex_move rfl) ?_
    have hk' : k < rs.length := by omega
    obtain ⟨b1, o1, vs1, ha1, -, -, hc1, rfl⟩ := e1 k hk'
    refine wl_val rfl (ex_indexAddr (n := k) (by rw [ha1]; rfl) rfl Try.elem27 hk') ?_
    refine wl_val rfl (ex_fieldAddr rfl Try.fld66_0) ?_
    refine wl_val rfl (ex_load1 rfl Try.agg21 ((hc1.evo hE3 (by simp)) 0 _ rfl)) ?_
    refine wl_val rfl (ex_move rfl) ?_
    refine wl_val rfl (ex_leq rfl rfl) ?_
    refine wl_val rfl (ex_move rfl) ?_
    refine wl_split (t := 19) rfl (fun hs19 => ?_) (fun hs19 => ?_)
    · skip
      refine wl_go rfl rfl rfl rfl ?_
      refine wl_val rfl (ex_move rfl) ?_
      refine wl_go rfl rfl rfl rfl ?_
      refine wl_val rfl (ex_move rfl) ?_
      refine wl_go rfl rfl rfl rfl ?_
      refine wl_val rfl (ex_move rfl) ?_
      refine wl_go rfl rfl rfl rfl ?_
      refine wl_val rfl (ex_indexAddr (n := k) (by rw [ha1]; rfl) rfl Try.elem27 hk') ?_
      refine wl_go rfl rfl rfl rfl ?_
      refine wl_val rfl (ex_fieldAddr rfl Try.fld66_1) ?_
      refine wl_go rfl rfl rfl rfl ?_
      refine wl_val rfl (ex_load1 rfl Try.agg21 ((hc1.evo hE3 (by simp)) 1 _ rfl)) ?_
      refine wl_go rfl rfl rfl rfl ?_
      refine wl_val rfl (ex_leq rfl rfl) ?_
      refine wl_val rfl (ex_pick_t rfl rfl) ?_
      refine wl_nil (nrm_then ?_)
      refine cw_if rfl (fun hc27 => ?_) (fun hc27 => ?_)
      · skip
        refine cw_seq ?_
        refine cw_region ?_
        refine wl_val rfl (ex_assign rfl) ?_
        refine wl_nil (nrm_then ?_)
        refine cw_ret (ret_block (ret_then (ret_then (ret_block (ret_then (body_ret1 rfl rfl ?_))))))
        exact ⟨congrArg Value.bool (decide_eq_true ⟨rs[k], List.getElem_mem _, by omega⟩).symm, hE3⟩
      · skip
        refine cw_skip (nrm_block (nrm_then ?_))
        refine cw_region ?_
        refine wl_val rfl (ex_move rfl) ?_
        refine wl_val rfl (ex_add_i64 rfl rfl (by omega) (by omega)) ?_
        refine wl_val rfl (ex_assign rfl) ?_
        refine wl_nil (nrm_then ?_)
        refine ⟨k + 1, ?_, ⟨rfl, trivial⟩, ⟨rfl, rfl, trivial⟩, hV2, ?_⟩
        · omega
        · skip
          refine ⟨by omega, fun i hi hik => ?_⟩
          by_cases e : i < k
          · exact hno i hi e
          · obtain rfl : i = k := by omega
            omega
    · skip
      refine wl_no rfl rfl rfl rfl rfl rfl ?_
      refine wl_no rfl rfl rfl rfl rfl rfl ?_
      refine wl_no rfl rfl rfl rfl rfl rfl ?_
      refine wl_no rfl rfl rfl rfl rfl rfl ?_
      refine wl_no rfl rfl rfl rfl rfl rfl ?_
      refine wl_no rfl rfl rfl rfl rfl rfl ?_
      refine wl_no rfl rfl rfl rfl rfl rfl ?_
      refine wl_val rfl (ex_pick_f rfl rfl) ?_
      refine wl_nil (nrm_then ?_)
      refine cw_false rfl ?_
      refine cw_skip (nrm_block (nrm_then ?_))
      refine cw_region ?_
      refine wl_val rfl (ex_move rfl) ?_
      refine wl_val rfl (ex_add_i64 rfl rfl (by omega) (by omega)) ?_
      refine wl_val rfl (ex_assign rfl) ?_
      refine wl_nil (nrm_then ?_)
      refine ⟨k + 1, ?_, ⟨rfl, trivial⟩, ⟨rfl, rfl, trivial⟩, hV2, ?_⟩
      · omega
      · skip
        refine ⟨by omega, fun i hi hik => ?_⟩
        by_cases e : i < k
        · exact hno i hi e
        · obtain rfl : i = k := by omega
          omega
  · skip
    refine cw_exit (ex_then (ex_then (ex_here (nrm_then ?_))))
    refine cw_seq ?_
    refine cw_region ?_
    refine wl_val rfl (ex_assign rfl) ?_
    refine wl_nil (nrm_then ?_)
    refine cw_ret (body_ret1 rfl rfl ?_)
    exact ⟨congrArg Value.bool (decide_eq_false (fun ⟨q, hq, h⟩ => by obtain ⟨i, hi, rfl⟩ := List.getElem_of_mem hq; exact hno i hi (by omega) h)).symm, hE3⟩

theorem stands_ok {w : World} (op arg : Int) (s : ByteArray) (a : Nat) (ha : a ≤ s.size) (hl : s.size ≤ 140737488355328) : Calls Try.prog 31 #[.int .i64 op, .int .i64 arg, .string s, .int .i64 (a : Nat)] w (Ret fun v w' => v = .bool (decide (Stands op arg s a)) ∧ Evo [] w w') := by
  refine calls_of_cw (N := 62) Try.func31 rfl rfl rfl ?_
  refine cw_seq ?_
  refine cw_region ?_
  refine wl_val rfl (ex_assign rfl) ?_
  refine wl_nil (nrm_then ?_)
  refine cw_seq ?_
  refine cw_seq ?_
  refine cw_region ?_
  refine wl_val rfl (ex_move rfl) ?_
  refine wl_nil (nrm_then ?_)
  refine cw_block ?_
  refine cw_seq ?_
  refine cw_region ?_
  refine wl_val rfl (ex_eql rfl rfl) ?_
  refine wl_val rfl (ex_assign rfl) ?_
  refine wl_nil (nrm_then ?_)
  refine cw_if rfl (fun hc12 => ?_) (fun hc12 => ?_)
  · skip
    refine cw_seq ?_
    refine cw_region ?_
    refine wl_val rfl (ex_move rfl) ?_
    refine wl_val rfl (ex_eql rfl rfl) ?_
    refine wl_val rfl (ex_assign rfl) ?_
    refine wl_nil (nrm_then ?_)
    refine cw_ret (ret_block (ret_then (body_ret1 rfl rfl ?_)))
    subst hc12
    have hst := stands_5 (arg := arg) (s := s) (a := a)
    exact ⟨congrArg Value.bool (by first | exact decide_eq_decide.2 (by rw [hst]; omega) | exact (decide_eq_true (by rw [hst]; omega)).symm | exact (decide_eq_false (by rw [hst]; omega)).symm), (Evo.refl [] w)⟩
  · skip
    refine cw_seq ?_
    refine cw_region ?_
    refine wl_val rfl (ex_eql rfl rfl) ?_
    refine wl_val rfl (ex_assign rfl) ?_
    refine wl_nil (nrm_then ?_)
    refine cw_if rfl (fun hc16 => ?_) (fun hc16 => ?_)
    · skip
      refine cw_seq ?_
      refine cw_region ?_
      refine wl_val rfl (ex_move rfl) ?_
      refine wl_val rfl (ex_move rfl) ?_
      refine wl_val rfl (ex_len_str rfl Try.underlying9 rfl) ?_
      refine wl_val rfl (ex_eql rfl rfl) ?_
      refine wl_val rfl (ex_assign rfl) ?_
      refine wl_nil (nrm_then ?_)
      refine cw_ret (ret_block (ret_then (body_ret1 rfl rfl ?_)))
      subst hc16
      have hst := stands_6 (arg := arg) (s := s) (a := a)
      exact ⟨congrArg Value.bool (by first | exact decide_eq_decide.2 (by rw [hst]; omega) | exact (decide_eq_true (by rw [hst]; omega)).symm | exact (decide_eq_false (by rw [hst]; omega)).symm), (Evo.refl [] w)⟩
    · skip
      refine cw_seq ?_
      refine cw_region ?_
      refine wl_val rfl (ex_eql rfl rfl) ?_
      refine wl_val rfl (ex_assign rfl) ?_
      refine wl_nil (nrm_then ?_)
      refine cw_if rfl (fun hc22 => ?_) (fun hc22 => ?_)
      · skip
        refine cw_seq ?_
        refine cw_region ?_
        refine wl_val rfl (ex_move rfl) ?_
        refine wl_val rfl (ex_eql rfl rfl) ?_
        refine wl_val rfl (ex_move rfl) ?_
        refine wl_split (t := 26) rfl (fun hs26 => ?_) (fun hs26 => ?_)
        · skip
          refine wl_no rfl rfl rfl rfl rfl rfl ?_
          refine wl_no rfl rfl rfl rfl rfl rfl ?_
          refine wl_no rfl rfl rfl rfl rfl rfl ?_
          refine wl_no rfl rfl rfl rfl rfl rfl ?_
          refine wl_no rfl rfl rfl rfl rfl rfl ?_
          refine wl_val rfl (ex_pick_t rfl rfl) ?_
          refine wl_val rfl (ex_assign rfl) ?_
          refine wl_nil (nrm_then ?_)
          refine cw_ret (ret_block (ret_then (body_ret1 rfl rfl ?_)))
          subst hc22
          have hst := stands_7 (arg := arg) (s := s) (a := a)
          exact ⟨congrArg Value.bool (by first | exact decide_eq_decide.2 (by rw [hst]; omega) | exact (decide_eq_true (by rw [hst]; omega)).symm | exact (decide_eq_false (by rw [hst]; omega)).symm), (Evo.refl [] w)⟩
        · skip
          refine wl_go rfl rfl rfl rfl ?_
          refine wl_val rfl (ex_move rfl) ?_
          refine wl_go rfl rfl rfl rfl ?_
          refine wl_val rfl (ex_move rfl) ?_
          refine wl_go rfl rfl rfl rfl ?_
          refine wl_val rfl (ex_sub_i64 rfl rfl (by omega) (by omega)) ?_
          refine wl_go rfl rfl rfl rfl ?_
          refine wl_val rfl (ex_sidx (n := a - 1) rfl rfl Try.underlying9 (by omega) (by omega)) ?_
          refine wl_go rfl rfl rfl rfl ?_
          refine wl_val rfl (ex_eql rfl rfl) ?_
          refine wl_val rfl (ex_pick_f rfl rfl) ?_
          refine wl_val rfl (ex_assign rfl) ?_
          refine wl_nil (nrm_then ?_)
          refine cw_ret (ret_block (ret_then (body_ret1 rfl rfl ?_)))
          subst hc22
          have hst := stands_7 (arg := arg) (s := s) (a := a)
          exact ⟨congrArg Value.bool (by first | exact decide_eq_decide.2 (by rw [hst]; omega) | exact (decide_eq_true (by rw [hst]; omega)).symm | exact (decide_eq_false (by rw [hst]; omega)).symm), (Evo.refl [] w)⟩
      · skip
        refine cw_seq ?_
        refine cw_region ?_
        refine wl_val rfl (ex_eql rfl rfl) ?_
        refine wl_val rfl (ex_assign rfl) ?_
        refine wl_nil (nrm_then ?_)
        refine cw_if rfl (fun hc33 => ?_) (fun hc33 => ?_)
        · skip
          refine cw_seq ?_
          refine cw_region ?_
          refine wl_val rfl (ex_move rfl) ?_
          refine wl_val rfl (ex_move rfl) ?_
          refine wl_val rfl (ex_len_str rfl Try.underlying9 rfl) ?_
          refine wl_val rfl (ex_eql rfl rfl) ?_
          refine wl_val rfl (ex_move rfl) ?_
          refine wl_split (t := 39) rfl (fun hs39 => ?_) (fun hs39 => ?_)
          · skip
            refine wl_no rfl rfl rfl rfl rfl rfl ?_
            refine wl_no rfl rfl rfl rfl rfl rfl ?_
            refine wl_no rfl rfl rfl rfl rfl rfl ?_
            refine wl_no rfl rfl rfl rfl rfl rfl ?_
            refine wl_val rfl (ex_pick_t rfl rfl) ?_
            refine wl_val rfl (ex_assign rfl) ?_
            refine wl_nil (nrm_then ?_)
            refine cw_ret (ret_block (ret_then (body_ret1 rfl rfl ?_)))
            subst hc33
            have hst := stands_8 (arg := arg) (s := s) (a := a)
            exact ⟨congrArg Value.bool (by first | exact decide_eq_decide.2 (by rw [hst]; omega) | exact (decide_eq_true (by rw [hst]; omega)).symm | exact (decide_eq_false (by rw [hst]; omega)).symm), (Evo.refl [] w)⟩
          · skip
            refine wl_go rfl rfl rfl rfl ?_
            refine wl_val rfl (ex_move rfl) ?_
            refine wl_go rfl rfl rfl rfl ?_
            refine wl_val rfl (ex_move rfl) ?_
            refine wl_go rfl rfl rfl rfl ?_
            refine wl_val rfl (ex_sidx (n := a) rfl rfl Try.underlying9 rfl (by omega)) ?_
            refine wl_go rfl rfl rfl rfl ?_
            refine wl_val rfl (ex_eql rfl rfl) ?_
            refine wl_val rfl (ex_pick_f rfl rfl) ?_
            refine wl_val rfl (ex_assign rfl) ?_
            refine wl_nil (nrm_then ?_)
            refine cw_ret (ret_block (ret_then (body_ret1 rfl rfl ?_)))
            subst hc33
            have hst := stands_8 (arg := arg) (s := s) (a := a)
            exact ⟨congrArg Value.bool (by first | exact decide_eq_decide.2 (by rw [hst]; omega) | exact (decide_eq_true (by rw [hst]; omega)).symm | exact (decide_eq_false (by rw [hst]; omega)).symm), (Evo.refl [] w)⟩
        · skip
          refine cw_seq ?_
          refine cw_region ?_
          refine wl_val rfl (ex_eql rfl rfl) ?_
          refine wl_val rfl (ex_assign rfl) ?_
          refine wl_nil (nrm_then ?_)
          refine cw_if rfl (fun hc45 => ?_) (fun hc45 => ?_)
          · skip
            refine cw_seq ?_
            refine cw_region ?_
            refine wl_val rfl (ex_move rfl) ?_
            refine wl_val rfl (ex_move rfl) ?_
            refine wl_val rfl (ex_sub_i64 rfl rfl (by omega) (by omega)) ?_
            refine wl_call1 (vs := [_, _]) Try.goes47 rfl (word_ok _ _ hl) rfl ?_
            rintro _ w1 ⟨rfl, hw2⟩
            have hE3 := (Evo.refl [] w).then hw2
            refine wl_val rfl (ex_assign rfl) ?_
            refine wl_nil (nrm_then ?_)
            refine cw_seq ?_
            refine cw_region ?_
            refine wl_val rfl (ex_move rfl) ?_
            refine wl_val rfl (ex_move rfl) ?_
            refine wl_call1 (vs := [_, _]) Try.goes47 rfl (word_ok _ _ hl) rfl ?_
            rintro _ w4 ⟨rfl, hw5⟩
            have hE6 := hE3.then hw5
            refine wl_val rfl (ex_assign rfl) ?_
            refine wl_nil (nrm_then ?_)
            refine cw_seq ?_
            refine cw_region ?_
            refine wl_val rfl (ex_move rfl) ?_
            refine wl_val rfl (ex_move rfl) ?_
            refine wl_val rfl (ex_neqb rfl rfl Try.underlying4) ?_
            refine wl_val rfl (ex_move rfl) ?_
            refine wl_val rfl (ex_eql rfl rfl) ?_
            refine wl_val rfl (ex_eqb rfl rfl Try.underlying4) ?_
            refine wl_val rfl (ex_assign rfl) ?_
            refine wl_nil (nrm_then ?_)
            refine cw_ret (ret_block (ret_then (body_ret1 rfl rfl ?_)))
            subst hc45
            have hst := stands_9 (arg := arg) (s := s) (a := a)
            exact ⟨congrArg Value.bool (decide_eq_decide.2 hst.symm), hE6⟩
          · skip
            refine cw_skip (nrm_block (nrm_then ?_))
            refine cw_seq ?_
            refine cw_region ?_
            refine wl_val rfl (ex_move rfl) ?_
            refine wl_val rfl (ex_eql rfl rfl) ?_
            refine wl_val rfl (ex_assign rfl) ?_
            refine wl_nil (nrm_then ?_)
            refine cw_ret (body_ret1 rfl rfl ?_)
            have hst := stands_o (arg := arg) (s := s) (a := a) hc12 hc16 hc22 hc33 hc45
            exact ⟨congrArg Value.bool (decide_eq_decide.2 hst.symm), (Evo.refl [] w)⟩


theorem word_pred {s : ByteArray} {a : Nat} (h : 0 < a) (h2 : a ≤ s.size) : WordAt s ((a : Int) - 1) ↔ WordC (sb s (a - 1)) := by
  have := wordAt_nat (s := s) (a := a - 1) (by omega)
  rwa [show (((a - 1 : Nat) : Nat) : Int) = (a : Int) - 1 from by omega] at this
theorem st9 {s : ByteArray} {a : Nat} {arg : Int} (b1 b2 : Bool) (h1 : b1 = decide (WordAt s ((a : Int) - 1))) (h2 : b2 = decide (WordAt s a)) : ((!(b1 == b2)) == decide (arg = 0)) = decide (Stands 9 arg s a) := by
  subst h1 h2
  have hst := stands_9 (arg := arg) (s := s) (a := a)
  by_cases h1 : WordAt s ((a : Int) - 1) <;> by_cases h2 : WordAt s a <;> by_cases h3 : arg = 0 <;> simp [h1, h2, h3] at hst ⊢ <;> simp [hst]

theorem holds_ok {w : World} {bm : Nat} {U : TypeId} {c0 c1 c2 c3 c5 c6 rv : Value} (op out alt arg : Int) (s : ByteArray) (a : Nat) (hB0 : w.heap[bm]? = some (.cells #[c0, c1, c2, c3, .string s, c5, c6] U (0, 0))) (ha : a ≤ s.size) (hl : s.size ≤ 140737488355328) : Calls Try.prog 76 #[.pointer (some ⟨bm, 0, none⟩), .agg #[.int .i64 op, .int .i64 out, .int .i64 alt, .int .i64 arg, rv], .int .i64 (a : Nat)] w (Ret fun v w' => v = .bool (decide (Stands op arg s a)) ∧ Evo [] w w') := by
  refine calls_of_cw (N := 79) Try.func76 rfl rfl rfl ?_
  refine cw_seq ?_
  refine cw_region ?_
  refine wl_boxA rfl rfl fun b1 w2 hB3 hs4 hw5 => ?_
  have hA6 := Apart.new (Lt.blk hB0) hs4
  have hG7 := Ge.new (Evo.refl [] w) hs4
  have hE8 := (Evo.refl [] w).then hw5
  have hB9 := hw5.blk0 hB0
  refine wl_val rfl (ex_assign rfl) ?_
  refine wl_nil (nrm_then ?_)
  refine cw_seq ?_
  refine cw_region ?_
  refine wl_val rfl (ex_move rfl) ?_
  refine wl_val rfl (ex_nilCheck rfl) ?_
  refine wl_val rfl (ex_fieldAddr rfl Try.fld114_1) ?_
  refine wl_val rfl (ex_load1 rfl Try.agg9 (cell_nth hB9 rfl)) ?_
  refine wl_val rfl (ex_assign rfl) ?_
  refine wl_nil (nrm_then ?_)
  refine cw_seq ?_
  refine cw_seq ?_
  refine cw_region ?_
  refine wl_val rfl (ex_fieldAddr rfl Try.fld29_0) ?_
  refine wl_val rfl (ex_load1 rfl Try.agg3 (cell_nth hB3 rfl)) ?_
  refine wl_nil (nrm_then ?_)
  refine cw_block ?_
  refine cw_seq ?_
  refine cw_region ?_
  refine wl_val rfl (ex_eql rfl rfl) ?_
  refine wl_val rfl (ex_assign rfl) ?_
  refine wl_nil (nrm_then ?_)
  refine cw_if rfl (fun hc16 => ?_) (fun hc16 => ?_)
  · skip
    refine cw_seq ?_
    refine cw_region ?_
    refine wl_val rfl (ex_assign rfl) ?_
    refine wl_nil (nrm_then ?_)
    refine cw_ret (ret_block (ret_then (body_ret1 rfl rfl ?_)))
    subst hc16
    exact ⟨congrArg Value.bool (decide_eq_true (by simp [Stands])).symm, hE8⟩
  · skip
    refine cw_seq ?_
    refine cw_region ?_
    refine wl_val rfl (ex_eql rfl rfl) ?_
    refine wl_val rfl (ex_assign rfl) ?_
    refine wl_nil (nrm_then ?_)
    refine cw_if rfl (fun hc18 => ?_) (fun hc18 => ?_)
    · skip
      refine cw_seq ?_
      refine cw_region ?_
      refine wl_val rfl (ex_move rfl) ?_
      refine wl_val rfl (ex_eql rfl rfl) ?_
      refine wl_val rfl (ex_assign rfl) ?_
      refine wl_nil (nrm_then ?_)
      refine cw_ret (ret_block (ret_then (body_ret1 rfl rfl ?_)))
      subst hc18
      have hst := stands_5 (arg := arg) (s := s) (a := a)
      exact ⟨congrArg Value.bool (by first | exact decide_eq_decide.2 (by rw [hst]; omega) | exact (decide_eq_true (by rw [hst]; omega)).symm | exact (decide_eq_false (by rw [hst]; omega)).symm), hE8⟩
    · skip
      refine cw_seq ?_
      refine cw_region ?_
      refine wl_val rfl (ex_eql rfl rfl) ?_
      refine wl_val rfl (ex_assign rfl) ?_
      refine wl_nil (nrm_then ?_)
      refine cw_if rfl (fun hc22 => ?_) (fun hc22 => ?_)
      · skip
        refine cw_seq ?_
        refine cw_region ?_
        refine wl_val rfl (ex_move rfl) ?_
        refine wl_val rfl (ex_move rfl) ?_
        refine wl_val rfl (ex_len_str rfl Try.underlying9 rfl) ?_
        refine wl_val rfl (ex_eql rfl rfl) ?_
        refine wl_val rfl (ex_assign rfl) ?_
        refine wl_nil (nrm_then ?_)
        refine cw_ret (ret_block (ret_then (body_ret1 rfl rfl ?_)))
        subst hc22
        have hst := stands_6 (arg := arg) (s := s) (a := a)
        exact ⟨congrArg Value.bool (by first | exact decide_eq_decide.2 (by rw [hst]; omega) | exact (decide_eq_true (by rw [hst]; omega)).symm | exact (decide_eq_false (by rw [hst]; omega)).symm), hE8⟩
      · skip
        refine cw_seq ?_
        refine cw_region ?_
        refine wl_val rfl (ex_eql rfl rfl) ?_
        refine wl_val rfl (ex_assign rfl) ?_
        refine wl_nil (nrm_then ?_)
        refine cw_if rfl (fun hc28 => ?_) (fun hc28 => ?_)
        · skip
          refine cw_seq ?_
          refine cw_region ?_
          refine wl_val rfl (ex_move rfl) ?_
          refine wl_val rfl (ex_eql rfl rfl) ?_
          refine wl_val rfl (ex_move rfl) ?_
          refine wl_split (t := 32) rfl (fun hs32 => ?_) (fun hs32 => ?_)
          · skip
            refine wl_no rfl rfl rfl rfl rfl rfl ?_
            refine wl_no rfl rfl rfl rfl rfl rfl ?_
            refine wl_no rfl rfl rfl rfl rfl rfl ?_
            refine wl_no rfl rfl rfl rfl rfl rfl ?_
            refine wl_no rfl rfl rfl rfl rfl rfl ?_
            refine wl_val rfl (ex_pick_t rfl rfl) ?_
            refine wl_val rfl (ex_assign rfl) ?_
            refine wl_nil (nrm_then ?_)
            refine cw_ret (ret_block (ret_then (body_ret1 rfl rfl ?_)))
            subst hc28
            have hst := stands_7 (arg := arg) (s := s) (a := a)
            exact ⟨congrArg Value.bool (by first | exact decide_eq_decide.2 (by rw [hst]; omega) | exact (decide_eq_true (by rw [hst]; omega)).symm | exact (decide_eq_false (by rw [hst]; omega)).symm), hE8⟩
          · skip
            refine wl_go rfl rfl rfl rfl ?_
            refine wl_val rfl (ex_move rfl) ?_
            refine wl_go rfl rfl rfl rfl ?_
            refine wl_val rfl (ex_move rfl) ?_
            refine wl_go rfl rfl rfl rfl ?_
            refine wl_val rfl (ex_sub_i64 rfl rfl (by omega) (by omega)) ?_
            refine wl_go rfl rfl rfl rfl ?_
            refine wl_val rfl (ex_sidx (n := a - 1) rfl rfl Try.underlying9 (by omega) (by omega)) ?_
            refine wl_go rfl rfl rfl rfl ?_
            refine wl_val rfl (ex_eql rfl rfl) ?_
            refine wl_val rfl (ex_pick_f rfl rfl) ?_
            refine wl_val rfl (ex_assign rfl) ?_
            refine wl_nil (nrm_then ?_)
            refine cw_ret (ret_block (ret_then (body_ret1 rfl rfl ?_)))
            subst hc28
            have hst := stands_7 (arg := arg) (s := s) (a := a)
            exact ⟨congrArg Value.bool (by first | exact decide_eq_decide.2 (by rw [hst]; omega) | exact (decide_eq_true (by rw [hst]; omega)).symm | exact (decide_eq_false (by rw [hst]; omega)).symm), hE8⟩
        · skip
          refine cw_seq ?_
          refine cw_region ?_
          refine wl_val rfl (ex_eql rfl rfl) ?_
          refine wl_val rfl (ex_assign rfl) ?_
          refine wl_nil (nrm_then ?_)
          refine cw_if rfl (fun hc39 => ?_) (fun hc39 => ?_)
          · skip
            refine cw_seq ?_
            refine cw_region ?_
            refine wl_val rfl (ex_move rfl) ?_
            refine wl_val rfl (ex_move rfl) ?_
            refine wl_val rfl (ex_len_str rfl Try.underlying9 rfl) ?_
            refine wl_val rfl (ex_eql rfl rfl) ?_
            refine wl_val rfl (ex_move rfl) ?_
            refine wl_split (t := 45) rfl (fun hs45 => ?_) (fun hs45 => ?_)
            · skip
              refine wl_no rfl rfl rfl rfl rfl rfl ?_
              refine wl_no rfl rfl rfl rfl rfl rfl ?_
              refine wl_no rfl rfl rfl rfl rfl rfl ?_
              refine wl_no rfl rfl rfl rfl rfl rfl ?_
              refine wl_val rfl (ex_pick_t rfl rfl) ?_
              refine wl_val rfl (ex_assign rfl) ?_
              refine wl_nil (nrm_then ?_)
              refine cw_ret (ret_block (ret_then (body_ret1 rfl rfl ?_)))
              subst hc39
              have hst := stands_8 (arg := arg) (s := s) (a := a)
              exact ⟨congrArg Value.bool (by first | exact decide_eq_decide.2 (by rw [hst]; omega) | exact (decide_eq_true (by rw [hst]; omega)).symm | exact (decide_eq_false (by rw [hst]; omega)).symm), hE8⟩
            · skip
              refine wl_go rfl rfl rfl rfl ?_
              refine wl_val rfl (ex_move rfl) ?_
              refine wl_go rfl rfl rfl rfl ?_
              refine wl_val rfl (ex_move rfl) ?_
              refine wl_go rfl rfl rfl rfl ?_
              refine wl_val rfl (ex_sidx (n := a) rfl rfl Try.underlying9 rfl (by omega)) ?_
              refine wl_go rfl rfl rfl rfl ?_
              refine wl_val rfl (ex_eql rfl rfl) ?_
              refine wl_val rfl (ex_pick_f rfl rfl) ?_
              refine wl_val rfl (ex_assign rfl) ?_
              refine wl_nil (nrm_then ?_)
              refine cw_ret (ret_block (ret_then (body_ret1 rfl rfl ?_)))
              subst hc39
              have hst := stands_8 (arg := arg) (s := s) (a := a)
              exact ⟨congrArg Value.bool (by first | exact decide_eq_decide.2 (by rw [hst]; omega) | exact (decide_eq_true (by rw [hst]; omega)).symm | exact (decide_eq_false (by rw [hst]; omega)).symm), hE8⟩
          · skip
            refine cw_seq ?_
            refine cw_region ?_
            refine wl_val rfl (ex_eql rfl rfl) ?_
            refine wl_val rfl (ex_assign rfl) ?_
            refine wl_nil (nrm_then ?_)
            refine cw_if rfl (fun hc51 => ?_) (fun hc51 => ?_)
            · skip
              refine cw_seq ?_
              refine cw_region ?_
              refine wl_val rfl (ex_move rfl) ?_
              refine wl_val rfl (ex_gtr rfl rfl) ?_
              refine wl_val rfl (ex_move rfl) ?_
              refine wl_split (t := 55) rfl (fun hs55 => ?_) (fun hs55 => ?_)
              · skip
                refine wl_go rfl rfl rfl rfl ?_
                refine wl_val rfl (ex_move rfl) ?_
                refine wl_go rfl rfl rfl rfl ?_
                refine wl_val rfl (ex_move rfl) ?_
                refine wl_go rfl rfl rfl rfl ?_
                refine wl_val rfl (ex_sub_i64 rfl rfl (by omega) (by omega)) ?_
                refine wl_go rfl rfl rfl rfl ?_
                refine wl_val rfl (ex_sidx (n := a - 1) rfl rfl Try.underlying9 (by omega) (by omega)) ?_
                refine wl_go rfl rfl rfl rfl ?_
                refine wl_call1 (vs := [_]) Try.goes83 rfl (wordByte_ok _) rfl ?_
                rintro _ w10 ⟨rfl, hw11⟩
                have hE12 := hE8.then hw11
                have hB13 := hw11.blk0 hB3
                refine wl_val rfl (ex_pick_t rfl rfl) ?_
                refine wl_val rfl (ex_move rfl) ?_
                refine wl_val rfl (ex_move rfl) ?_
                refine wl_val rfl (ex_len_str rfl Try.underlying9 rfl) ?_
                refine wl_val rfl (ex_lss rfl rfl) ?_
                refine wl_val rfl (ex_move rfl) ?_
                refine wl_split (t := 66) rfl (fun hs66 => ?_) (fun hs66 => ?_)
                · skip
                  refine wl_go rfl rfl rfl rfl ?_
                  refine wl_val rfl (ex_move rfl) ?_
                  refine wl_go rfl rfl rfl rfl ?_
                  refine wl_val rfl (ex_move rfl) ?_
                  refine wl_go rfl rfl rfl rfl ?_
                  refine wl_val rfl (ex_sidx (n := a) rfl rfl Try.underlying9 rfl (by omega)) ?_
                  refine wl_go rfl rfl rfl rfl ?_
                  refine wl_call1 (vs := [_]) Try.goes83 rfl (wordByte_ok _) rfl ?_
                  rintro _ w14 ⟨rfl, hw15⟩
                  have hE16 := hE12.then hw15
                  have hB17 := hw15.blk0 hB13
                  refine wl_val rfl (ex_pick_t rfl rfl) ?_
                  refine wl_val rfl (ex_assign rfl) ?_
                  refine wl_val rfl (ex_assign rfl) ?_
                  refine wl_nil (nrm_then ?_)
                  refine cw_seq ?_
                  refine cw_region ?_
                  refine wl_val rfl (ex_move rfl) ?_
                  refine wl_val rfl (ex_move rfl) ?_
                  refine wl_val rfl (ex_neqB rfl rfl Try.underlying4) ?_
                  refine wl_val rfl (ex_fieldAddr rfl Try.fld29_3) ?_
                  refine wl_val rfl (ex_load1 rfl Try.agg3 (cell_nth hB17 rfl)) ?_
                  refine wl_val rfl (ex_eql rfl rfl) ?_
                  refine wl_val rfl (ex_eqB rfl rfl Try.underlying4) ?_
                  refine wl_val rfl (ex_assign rfl) ?_
                  refine wl_nil (nrm_then ?_)
                  refine cw_ret (ret_block (ret_then (body_ret1 rfl rfl ?_)))
                  subst hc51
                  exact ⟨congrArg Value.bool (st9 _ _ (by first | exact decide_eq_decide.2 (word_pred (by omega) (by omega)).symm | exact (decide_eq_false (fun h => by have := h.1; omega)).symm) (by first | exact decide_eq_decide.2 (wordAt_nat (by omega)).symm | exact (decide_eq_false (fun h => by have := h.2.1; omega)).symm)), hE16⟩
                · skip
                  refine wl_no rfl rfl rfl rfl rfl rfl ?_
                  refine wl_no rfl rfl rfl rfl rfl rfl ?_
                  refine wl_no rfl rfl rfl rfl rfl rfl ?_
                  refine wl_no rfl rfl rfl rfl rfl rfl ?_
                  refine wl_val rfl (ex_pick_f rfl rfl) ?_
                  refine wl_val rfl (ex_assign rfl) ?_
                  refine wl_val rfl (ex_assign rfl) ?_
                  refine wl_nil (nrm_then ?_)
                  refine cw_seq ?_
                  refine cw_region ?_
                  refine wl_val rfl (ex_move rfl) ?_
                  refine wl_val rfl (ex_move rfl) ?_
                  refine wl_val rfl (ex_neqB rfl rfl Try.underlying4) ?_
                  refine wl_val rfl (ex_fieldAddr rfl Try.fld29_3) ?_
                  refine wl_val rfl (ex_load1 rfl Try.agg3 (cell_nth hB13 rfl)) ?_
                  refine wl_val rfl (ex_eql rfl rfl) ?_
                  refine wl_val rfl (ex_eqB rfl rfl Try.underlying4) ?_
                  refine wl_val rfl (ex_assign rfl) ?_
                  refine wl_nil (nrm_then ?_)
                  refine cw_ret (ret_block (ret_then (body_ret1 rfl rfl ?_)))
                  subst hc51
                  exact ⟨congrArg Value.bool (st9 _ _ (by first | exact decide_eq_decide.2 (word_pred (by omega) (by omega)).symm | exact (decide_eq_false (fun h => by have := h.1; omega)).symm) (by first | exact decide_eq_decide.2 (wordAt_nat (by omega)).symm | exact (decide_eq_false (fun h => by have := h.2.1; omega)).symm)), hE12⟩
              · skip
                refine wl_no rfl rfl rfl rfl rfl rfl ?_
                refine wl_no rfl rfl rfl rfl rfl rfl ?_
                refine wl_no rfl rfl rfl rfl rfl rfl ?_
                refine wl_no rfl rfl rfl rfl rfl rfl ?_
                refine wl_no rfl rfl rfl rfl rfl rfl ?_
                refine wl_val rfl (ex_pick_f rfl rfl) ?_
                refine wl_val rfl (ex_move rfl) ?_
                refine wl_val rfl (ex_move rfl) ?_
                refine wl_val rfl (ex_len_str rfl Try.underlying9 rfl) ?_
                refine wl_val rfl (ex_lss rfl rfl) ?_
                refine wl_val rfl (ex_move rfl) ?_
                refine wl_split (t := 66) rfl (fun hs66 => ?_) (fun hs66 => ?_)
                · skip
                  refine wl_go rfl rfl rfl rfl ?_
                  refine wl_val rfl (ex_move rfl) ?_
                  refine wl_go rfl rfl rfl rfl ?_
                  refine wl_val rfl (ex_move rfl) ?_
                  refine wl_go rfl rfl rfl rfl ?_
                  refine wl_val rfl (ex_sidx (n := a) rfl rfl Try.underlying9 rfl (by omega)) ?_
                  refine wl_go rfl rfl rfl rfl ?_
                  refine wl_call1 (vs := [_]) Try.goes83 rfl (wordByte_ok _) rfl ?_
                  rintro _ w18 ⟨rfl, hw19⟩
                  have hE20 := hE8.then hw19
                  have hB21 := hw19.blk0 hB3
                  refine wl_val rfl (ex_pick_t rfl rfl) ?_
                  refine wl_val rfl (ex_assign rfl) ?_
                  refine wl_val rfl (ex_assign rfl) ?_
                  refine wl_nil (nrm_then ?_)
                  refine cw_seq ?_
                  refine cw_region ?_
                  refine wl_val rfl (ex_move rfl) ?_
                  refine wl_val rfl (ex_move rfl) ?_
                  refine wl_val rfl (ex_neqB rfl rfl Try.underlying4) ?_
                  refine wl_val rfl (ex_fieldAddr rfl Try.fld29_3) ?_
                  refine wl_val rfl (ex_load1 rfl Try.agg3 (cell_nth hB21 rfl)) ?_
                  refine wl_val rfl (ex_eql rfl rfl) ?_
                  refine wl_val rfl (ex_eqB rfl rfl Try.underlying4) ?_
                  refine wl_val rfl (ex_assign rfl) ?_
                  refine wl_nil (nrm_then ?_)
                  refine cw_ret (ret_block (ret_then (body_ret1 rfl rfl ?_)))
                  subst hc51
                  exact ⟨congrArg Value.bool (st9 _ _ (by first | exact decide_eq_decide.2 (word_pred (by omega) (by omega)).symm | exact (decide_eq_false (fun h => by have := h.1; omega)).symm) (by first | exact decide_eq_decide.2 (wordAt_nat (by omega)).symm | exact (decide_eq_false (fun h => by have := h.2.1; omega)).symm)), hE20⟩
                · skip
                  refine wl_no rfl rfl rfl rfl rfl rfl ?_
                  refine wl_no rfl rfl rfl rfl rfl rfl ?_
                  refine wl_no rfl rfl rfl rfl rfl rfl ?_
                  refine wl_no rfl rfl rfl rfl rfl rfl ?_
                  refine wl_val rfl (ex_pick_f rfl rfl) ?_
                  refine wl_val rfl (ex_assign rfl) ?_
                  refine wl_val rfl (ex_assign rfl) ?_
                  refine wl_nil (nrm_then ?_)
                  refine cw_seq ?_
                  refine cw_region ?_
                  refine wl_val rfl (ex_move rfl) ?_
                  refine wl_val rfl (ex_move rfl) ?_
                  refine wl_val rfl (ex_neqB rfl rfl Try.underlying4) ?_
                  refine wl_val rfl (ex_fieldAddr rfl Try.fld29_3) ?_
                  refine wl_val rfl (ex_load1 rfl Try.agg3 (cell_nth hB3 rfl)) ?_
                  refine wl_val rfl (ex_eql rfl rfl) ?_
                  refine wl_val rfl (ex_eqB rfl rfl Try.underlying4) ?_
                  refine wl_val rfl (ex_assign rfl) ?_
                  refine wl_nil (nrm_then ?_)
                  refine cw_ret (ret_block (ret_then (body_ret1 rfl rfl ?_)))
                  subst hc51
                  exact ⟨congrArg Value.bool (st9 _ _ (by first | exact decide_eq_decide.2 (word_pred (by omega) (by omega)).symm | exact (decide_eq_false (fun h => by have := h.1; omega)).symm) (by first | exact decide_eq_decide.2 (wordAt_nat (by omega)).symm | exact (decide_eq_false (fun h => by have := h.2.1; omega)).symm)), hE8⟩
            · skip
              refine cw_skip (nrm_block (nrm_then ?_))
              refine cw_seq ?_
              refine cw_region ?_
              refine wl_val rfl (ex_assign rfl) ?_
              refine wl_nil (nrm_then ?_)
              refine cw_ret (body_ret1 rfl rfl ?_)
              have hst := stands_o (arg := arg) (s := s) (a := a) hc18 hc22 hc28 hc39 hc51
              exact ⟨congrArg Value.bool (decide_eq_false (fun h => hc16 (hst.1 h))).symm, hE8⟩

end Go.Proofs.Ytopjnoblhleimaa
