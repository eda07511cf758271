/- The walks of letter, digit, nameEnd, IsLabel, replaced, utf.Valid, labels.Valid. -/
import Derived.Test.YtebghjbfdpeipaaProg
import Derived.Test.YtebghjbfdpeipaaJb
namespace Go.Proofs.Ytebghjbfdpeipaa
open Go.Proofs
open Go.W
attribute [local irreducible] Decidable.decide
set_option linter.unusedSimpArgs false
set_option linter.unusedVariables false
theorem Try.agg33 : aggB Try.prog 33 = some true := by kernel_rfl
theorem Try.agg9 : aggB Try.prog 9 = some false := by kernel_rfl
theorem Try.elem31 : elemB Try.prog 31 = some 2 := by kernel_rfl
theorem Try.fld33_0 : fieldB Try.prog 33 0 = some 0 := by kernel_rfl
theorem Try.fld33_1 : fieldB Try.prog 33 1 = some 1 := by kernel_rfl
theorem Try.goes42 : Goes Try.prog 42 := ⟨_, Try.func42, by kernel_rfl, by kernel_rfl⟩
theorem Try.goes43 : Goes Try.prog 43 := ⟨_, Try.func43, by kernel_rfl, by kernel_rfl⟩
theorem Try.goes53 : Goes Try.prog 53 := ⟨_, Try.func53, by kernel_rfl, by kernel_rfl⟩
theorem Try.goes54 : Goes Try.prog 54 := ⟨_, Try.func54, by kernel_rfl, by kernel_rfl⟩
theorem Try.goes55 : Goes Try.prog 55 := ⟨_, Try.func55, by kernel_rfl, by kernel_rfl⟩
theorem Try.goes62 : Goes Try.prog 62 := ⟨_, Try.func62, by kernel_rfl, by kernel_rfl⟩
theorem Try.size33 : sizeB Try.prog 33 = some 2 := by kernel_rfl
theorem Try.zero33 : zeroB Try.prog 33 = some #[.string ByteArray.empty, .string ByteArray.empty] := by kernel_rfl

theorem letter_ok {w : World} (c : Nat) : Calls Try.prog 53 #[.int .u8 (c : Nat)] w (Ret fun v w' => v = .bool (decide (letterN c)) ∧ Evo [] w w') := by
  refine calls_of_cw (N := 21) Try.func53 rfl rfl rfl ?_
  refine cw_seq ?_
  refine cw_region ?_
  refine wl_val rfl (ex_assign rfl) ?_
  refine wl_nil (nrm_then ?_)
  refine cw_seq ?_
  refine cw_region ?_
  refine wl_val rfl (ex_move rfl) ?_
  refine wl_val rfl (ex_geq rfl rfl) ?_
  refine wl_val rfl (ex_move rfl) ?_
  refine wl_split (t := 5) rfl (fun hs5 => ?_) (fun hs5 => ?_)
  · skip
    refine wl_go rfl rfl rfl rfl ?_
    refine wl_val rfl (ex_move rfl) ?_
    refine wl_go rfl rfl rfl rfl ?_
    refine wl_val rfl (ex_leq rfl rfl) ?_
    refine wl_val rfl (ex_pick_t rfl rfl) ?_
    refine wl_val rfl (ex_move rfl) ?_
    refine wl_split (t := 9) rfl (fun hs9 => ?_) (fun hs9 => ?_)
    · skip
      refine wl_no rfl rfl rfl rfl rfl rfl ?_
      refine wl_no rfl rfl rfl rfl rfl rfl ?_
      refine wl_no rfl rfl rfl rfl rfl rfl ?_
      refine wl_nou rfl rfl rfl rfl rfl ?_
      refine wl_nou rfl rfl rfl rfl rfl ?_
      refine wl_no rfl rfl rfl rfl rfl rfl ?_
      refine wl_val rfl (ex_pick_t rfl rfl) ?_
      refine wl_val rfl (ex_move rfl) ?_
      refine wl_no rfl rfl rfl rfl rfl rfl ?_
      refine wl_no rfl rfl rfl rfl rfl rfl ?_
      refine wl_val rfl (ex_pick_t rfl rfl) ?_
      refine wl_val rfl (ex_assign rfl) ?_
      refine wl_nil (nrm_then ?_)
      refine cw_ret (body_ret1 rfl rfl ?_)
      refine ⟨congrArg Value.bool (Bool.eq_iff_iff.2 ?_), (Evo.refl [] w)⟩
      simp only [decide_eq_true_eq, Bool.false_eq_true, Bool.true_eq_false, true_iff, false_iff, eq_self, iff_true]; unfold letterN; omega
    · skip
      refine wl_go rfl rfl rfl rfl ?_
      refine wl_val rfl (ex_move rfl) ?_
      refine wl_go rfl rfl rfl rfl ?_
      refine wl_val rfl (ex_geq rfl rfl) ?_
      refine wl_go rfl rfl rfl rfl ?_
      refine wl_val rfl (ex_move rfl) ?_
      refine wl_split (t := 12) rfl (fun hs12 => ?_) (fun hs12 => ?_)
      · skip
        refine wl_go rfl rfl rfl rfl ?_
        refine wl_val rfl (ex_move rfl) ?_
        refine wl_go rfl rfl rfl rfl ?_
        refine wl_val rfl (ex_leq rfl rfl) ?_
        refine wl_go rfl rfl rfl rfl ?_
        refine wl_val rfl (ex_pick_t rfl rfl) ?_
        refine wl_val rfl (ex_pick_f rfl rfl) ?_
        refine wl_val rfl (ex_move rfl) ?_
        refine wl_split (t := 17) rfl (fun hs17 => ?_) (fun hs17 => ?_)
        · skip
          refine wl_no rfl rfl rfl rfl rfl rfl ?_
          refine wl_no rfl rfl rfl rfl rfl rfl ?_
          refine wl_val rfl (ex_pick_t rfl rfl) ?_
          refine wl_val rfl (ex_assign rfl) ?_
          refine wl_nil (nrm_then ?_)
          refine cw_ret (body_ret1 rfl rfl ?_)
          refine ⟨congrArg Value.bool (Bool.eq_iff_iff.2 ?_), (Evo.refl [] w)⟩
          simp only [decide_eq_true_eq, Bool.false_eq_true, Bool.true_eq_false, true_iff, false_iff, eq_self, iff_true]; unfold letterN; omega
        · skip
          refine wl_go rfl rfl rfl rfl ?_
          refine wl_val rfl (ex_move rfl) ?_
          refine wl_go rfl rfl rfl rfl ?_
          refine wl_val rfl (ex_eql rfl rfl) ?_
          refine wl_val rfl (ex_pick_f rfl rfl) ?_
          refine wl_val rfl (ex_assign rfl) ?_
          refine wl_nil (nrm_then ?_)
          refine cw_ret (body_ret1 rfl rfl ?_)
          refine ⟨congrArg Value.bool (Bool.eq_iff_iff.2 ?_), (Evo.refl [] w)⟩
          simp only [decide_eq_true_eq, Bool.false_eq_true, Bool.true_eq_false, true_iff, false_iff, eq_self, iff_true]; unfold letterN; omega
      · skip
        refine wl_no rfl rfl rfl rfl rfl rfl ?_
        refine wl_no rfl rfl rfl rfl rfl rfl ?_
        refine wl_go rfl rfl rfl rfl ?_
        refine wl_val rfl (ex_pick_f rfl rfl) ?_
        refine wl_val rfl (ex_pick_f rfl rfl) ?_
        refine wl_val rfl (ex_move rfl) ?_
        refine wl_go rfl rfl rfl rfl ?_
        refine wl_val rfl (ex_move rfl) ?_
        refine wl_go rfl rfl rfl rfl ?_
        refine wl_val rfl (ex_eql rfl rfl) ?_
        refine wl_val rfl (ex_pick_f rfl rfl) ?_
        refine wl_val rfl (ex_assign rfl) ?_
        refine wl_nil (nrm_then ?_)
        refine cw_ret (body_ret1 rfl rfl ?_)
        refine ⟨congrArg Value.bool (Bool.eq_iff_iff.2 ?_), (Evo.refl [] w)⟩
        simp only [decide_eq_true_eq, Bool.false_eq_true, Bool.true_eq_false, true_iff, false_iff, eq_self, iff_true]; unfold letterN; omega
  · skip
    refine wl_no rfl rfl rfl rfl rfl rfl ?_
    refine wl_no rfl rfl rfl rfl rfl rfl ?_
    refine wl_val rfl (ex_pick_f rfl rfl) ?_
    refine wl_val rfl (ex_move rfl) ?_
    refine wl_go rfl rfl rfl rfl ?_
    refine wl_val rfl (ex_move rfl) ?_
    refine wl_go rfl rfl rfl rfl ?_
    refine wl_val rfl (ex_geq rfl rfl) ?_
    refine wl_go rfl rfl rfl rfl ?_
    refine wl_val rfl (ex_move rfl) ?_
    refine wl_split (t := 12) rfl (fun hs12 => ?_) (fun hs12 => ?_)
    · skip
      refine wl_go rfl rfl rfl rfl ?_
      refine wl_val rfl (ex_move rfl) ?_
      refine wl_go rfl rfl rfl rfl ?_
      refine wl_val rfl (ex_leq rfl rfl) ?_
      refine wl_go rfl rfl rfl rfl ?_
      refine wl_val rfl (ex_pick_t rfl rfl) ?_
      refine wl_val rfl (ex_pick_f rfl rfl) ?_
      refine wl_val rfl (ex_move rfl) ?_
      refine wl_split (t := 17) rfl (fun hs17 => ?_) (fun hs17 => ?_)
      · skip
        refine wl_no rfl rfl rfl rfl rfl rfl ?_
        refine wl_no rfl rfl rfl rfl rfl rfl ?_
        refine wl_val rfl (ex_pick_t rfl rfl) ?_
        refine wl_val rfl (ex_assign rfl) ?_
        refine wl_nil (nrm_then ?_)
        refine cw_ret (body_ret1 rfl rfl ?_)
        refine ⟨congrArg Value.bool (Bool.eq_iff_iff.2 ?_), (Evo.refl [] w)⟩
        simp only [decide_eq_true_eq, Bool.false_eq_true, Bool.true_eq_false, true_iff, false_iff, eq_self, iff_true]; unfold letterN; omega
      · skip
        refine wl_go rfl rfl rfl rfl ?_
        refine wl_val rfl (ex_move rfl) ?_
        refine wl_go rfl rfl rfl rfl ?_
        refine wl_val rfl (ex_eql rfl rfl) ?_
        refine wl_val rfl (ex_pick_f rfl rfl) ?_
        refine wl_val rfl (ex_assign rfl) ?_
        refine wl_nil (nrm_then ?_)
        refine cw_ret (body_ret1 rfl rfl ?_)
        refine ⟨congrArg Value.bool (Bool.eq_iff_iff.2 ?_), (Evo.refl [] w)⟩
        simp only [decide_eq_true_eq, Bool.false_eq_true, Bool.true_eq_false, true_iff, false_iff, eq_self, iff_true]; unfold letterN; omega
    · skip
      refine wl_no rfl rfl rfl rfl rfl rfl ?_
      refine wl_no rfl rfl rfl rfl rfl rfl ?_
      refine wl_go rfl rfl rfl rfl ?_
      refine wl_val rfl (ex_pick_f rfl rfl) ?_
      refine wl_val rfl (ex_pick_f rfl rfl) ?_
      refine wl_val rfl (ex_move rfl) ?_
      refine wl_go rfl rfl rfl rfl ?_
      refine wl_val rfl (ex_move rfl) ?_
      refine wl_go rfl rfl rfl rfl ?_
      refine wl_val rfl (ex_eql rfl rfl) ?_
      refine wl_val rfl (ex_pick_f rfl rfl) ?_
      refine wl_val rfl (ex_assign rfl) ?_
      refine wl_nil (nrm_then ?_)
      refine cw_ret (body_ret1 rfl rfl ?_)
      refine ⟨congrArg Value.bool (Bool.eq_iff_iff.2 ?_), (Evo.refl [] w)⟩
      simp only [decide_eq_true_eq, Bool.false_eq_true, Bool.true_eq_false, true_iff, false_iff, eq_self, iff_true]; unfold letterN; omega

theorem digit_ok {w : World} (c : Nat) : Calls Try.prog 62 #[.int .u8 (c : Nat)] w (Ret fun v w' => v = .bool (decide (48 ≤ c ∧ c ≤ 57)) ∧ Evo [] w w') := by
  refine calls_of_cw (N := 9) Try.func62 rfl rfl rfl ?_
  refine cw_seq ?_
  refine cw_region ?_
  refine wl_val rfl (ex_assign rfl) ?_
  refine wl_nil (nrm_then ?_)
  refine cw_seq ?_
  refine cw_region ?_
  refine wl_val rfl (ex_move rfl) ?_
  refine wl_val rfl (ex_geq rfl rfl) ?_
  refine wl_val rfl (ex_move rfl) ?_
  refine wl_split (t := 5) rfl (fun hs5 => ?_) (fun hs5 => ?_)
  · skip
    refine wl_go rfl rfl rfl rfl ?_
    refine wl_val rfl (ex_move rfl) ?_
    refine wl_go rfl rfl rfl rfl ?_
    refine wl_val rfl (ex_leq rfl rfl) ?_
    refine wl_val rfl (ex_pick_t rfl rfl) ?_
    refine wl_val rfl (ex_assign rfl) ?_
    refine wl_nil (nrm_then ?_)
    refine cw_ret (body_ret1 rfl rfl ?_)
    refine ⟨congrArg Value.bool (Bool.eq_iff_iff.2 ?_), (Evo.refl [] w)⟩
    simp only [decide_eq_true_eq, Bool.false_eq_true, Bool.true_eq_false, true_iff, false_iff, eq_self, iff_true]; omega
  · skip
    refine wl_no rfl rfl rfl rfl rfl rfl ?_
    refine wl_no rfl rfl rfl rfl rfl rfl ?_
    refine wl_val rfl (ex_pick_f rfl rfl) ?_
    refine wl_val rfl (ex_assign rfl) ?_
    refine wl_nil (nrm_then ?_)
    refine cw_ret (body_ret1 rfl rfl ?_)
    refine ⟨congrArg Value.bool (Bool.eq_iff_iff.2 ?_), (Evo.refl [] w)⟩
    simp only [decide_eq_true_eq, Bool.false_eq_true, Bool.true_eq_false, true_iff, false_iff, eq_self, iff_true]; omega

theorem nameEnd_ok {w : World} (s : ByteArray) (hl : s.size ≤ 140737488355328) : Calls Try.prog 54 #[.string s, .int .i64 (0 : Nat), .bool false] w (Ret fun v w' => ∃ k : Nat, v = .int .i64 k ∧ NameEnd s k ∧ Evo [] w w') := by
  refine calls_of_cw (N := 35) Try.func54 rfl rfl rfl ?_
  refine cw_seq ?_
  refine cw_region ?_
  refine wl_val rfl (ex_assign rfl) ?_
  refine wl_nil (nrm_then ?_)
  refine cw_seq ?_
  refine cw_block ?_
  refine cw_loop (α := Nat) (0) (fun k => [(1, .int .i64 (k : Nat))]) [(0, _), (2, _), (6, _)] (fun k wr => Evo [] w wr ∧ (k ≤ s.size ∧ ∀ j, j < k → nameN (sb s j))) (fun k => s.size - k) ⟨rfl, trivial⟩ ⟨rfl, rfl, rfl, trivial⟩ ⟨Evo.refl _ _, ⟨Nat.zero_le _, fun j h => by omega⟩⟩ ?_
  rintro k wr1 ⟨hV2, ⟨hk, hn⟩⟩
  show CW _ _ _ _ [(1, _), (0, _), (2, _), (6, _)] _
  have hE3 := (Evo.refl [] w).then hV2
  refine cw_seq ?_
  refine cw_seq ?_
  refine cw_region ?_
  refine wl_val rfl (ex_move rfl) ?_
  refine wl_val rfl (ex_move rfl) ?_
  refine wl_val rfl (ex_len_str rfl Try.underlying9 rfl) ?_
  refine wl_val rfl (ex_lss rfl rfl) ?_
  refine wl_val rfl (ex_move rfl) ?_
  refine wl_split (t := 11) rfl (fun hs11 => ?_) (fun hs11 => ?_)
  · skip
    refine wl_go rfl rfl rfl rfl ?_
    refine wl_val rfl (ex_move rfl) ?_
    refine wl_go rfl rfl rfl rfl ?_
    refine wl_val rfl (ex_move rfl) ?_
    refine wl_go rfl rfl rfl rfl ?_
    refine wl_val rfl (ex_sidx (n := k) rfl rfl Try.underlying9 rfl (by omega)) ?_
    refine wl_go rfl rfl rfl rfl ?_
    refine wl_call1 (vs := [_]) Try.goes53 rfl (letter_ok (sb s k)) rfl ?_
    rintro _ w4 ⟨rfl, hw5⟩
    have hE6 := hE3.then hw5
    have hE7 := hV2.then hw5
    refine wl_go rfl rfl rfl rfl ?_
    refine wl_val rfl (ex_move rfl) ?_
    refine wl_split (t := 16) rfl (fun hs16 => ?_) (fun hs16 => ?_)
    · skip
      refine wl_no rfl rfl rfl rfl rfl rfl ?_
      refine wl_no rfl rfl rfl rfl rfl rfl ?_
      refine wl_no rfl rfl rfl rfl rfl rfl ?_
      refine wl_no rfl rfl rfl rfl rfl rfl ?_
      refine wl_go rfl rfl rfl rfl ?_
      refine wl_val rfl (ex_pick_t rfl rfl) ?_
      refine wl_go rfl rfl rfl rfl ?_
      refine wl_val rfl (ex_move rfl) ?_
      refine wl_no rfl rfl rfl rfl rfl rfl ?_
      refine wl_no rfl rfl rfl rfl rfl rfl ?_
      refine wl_nou rfl rfl rfl rfl rfl ?_
      refine wl_nou rfl rfl rfl rfl rfl ?_
      refine wl_nou rfl rfl rfl rfl rfl ?_
      refine wl_nou rfl rfl rfl rfl rfl ?_
      refine wl_no rfl rfl rfl rfl rfl rfl ?_
      refine wl_go rfl rfl rfl rfl ?_
      refine wl_val rfl (ex_pick_t rfl rfl) ?_
      refine wl_val rfl (ex_pick_t rfl rfl) ?_
      refine wl_nil (nrm_then ?_)
      refine cw_true rfl ?_
      refine cw_skip (nrm_then ?_)
      refine cw_block ?_
      refine cw_region ?_
      refine wl_val rfl (ex_move rfl) ?_
      refine wl_val rfl (ex_add_i64 rfl rfl (by omega) (by omega)) ?_
      refine wl_val rfl (ex_assign rfl) ?_
      refine wl_nil (nrm_block (nrm_same ?_))
      refine ⟨k + 1, ?_, ⟨rfl, trivial⟩, ⟨rfl, rfl, rfl, trivial⟩, hE7, ?_⟩
      · omega
      · skip
        refine ⟨by omega, fun j hj => ?_⟩
        by_cases e : j < k
        · exact hn j e
        · obtain rfl : j = k := by omega
          first | exact .inl hs16 | exact .inr hs22 | exact .inr hc31 | exact .inl (by assumption) | exact .inr (by assumption)
    · skip
      refine wl_go rfl rfl rfl rfl ?_
      refine wl_val rfl (ex_move rfl) ?_
      refine wl_go rfl rfl rfl rfl ?_
      refine wl_val rfl (ex_move rfl) ?_
      refine wl_go rfl rfl rfl rfl ?_
      refine wl_val rfl (ex_sidx (n := k) rfl rfl Try.underlying9 rfl (by omega)) ?_
      refine wl_go rfl rfl rfl rfl ?_
      refine wl_call1 (vs := [_]) Try.goes62 rfl (digit_ok (sb s k)) rfl ?_
      rintro _ w8 ⟨rfl, hw9⟩
      have hE10 := hE6.then hw9
      have hE11 := hE7.then hw9
      refine wl_go rfl rfl rfl rfl ?_
      refine wl_val rfl (ex_pick_f rfl rfl) ?_
      refine wl_go rfl rfl rfl rfl ?_
      refine wl_val rfl (ex_move rfl) ?_
      refine wl_split (t := 22) rfl (fun hs22 => ?_) (fun hs22 => ?_)
      · skip
        refine wl_no rfl rfl rfl rfl rfl rfl ?_
        refine wl_no rfl rfl rfl rfl rfl rfl ?_
        refine wl_nou rfl rfl rfl rfl rfl ?_
        refine wl_nou rfl rfl rfl rfl rfl ?_
        refine wl_nou rfl rfl rfl rfl rfl ?_
        refine wl_nou rfl rfl rfl rfl rfl ?_
        refine wl_no rfl rfl rfl rfl rfl rfl ?_
        refine wl_go rfl rfl rfl rfl ?_
        refine wl_val rfl (ex_pick_t rfl rfl) ?_
        refine wl_val rfl (ex_pick_t rfl rfl) ?_
        refine wl_nil (nrm_then ?_)
        refine cw_true rfl ?_
        refine cw_skip (nrm_then ?_)
        refine cw_block ?_
        refine cw_region ?_
        refine wl_val rfl (ex_move rfl) ?_
        refine wl_val rfl (ex_add_i64 rfl rfl (by omega) (by omega)) ?_
        refine wl_val rfl (ex_assign rfl) ?_
        refine wl_nil (nrm_block (nrm_same ?_))
        refine ⟨k + 1, ?_, ⟨rfl, trivial⟩, ⟨rfl, rfl, rfl, trivial⟩, hE11, ?_⟩
        · omega
        · skip
          refine ⟨by omega, fun j hj => ?_⟩
          by_cases e : j < k
          · exact hn j e
          · obtain rfl : j = k := by omega
            first | exact .inl hs16 | exact .inr hs22 | exact .inr hc31 | exact .inl (by assumption) | exact .inr (by assumption)
      · skip
        refine wl_go rfl rfl rfl rfl ?_
        refine wl_val rfl (ex_move rfl) ?_
        refine wl_go rfl rfl rfl rfl ?_
        refine wl_val rfl (ex_move rfl) ?_
        refine wl_no rfl rfl rfl rfl rfl rfl ?_
        refine wl_no rfl rfl rfl rfl rfl rfl ?_
        refine wl_no rfl rfl rfl rfl rfl rfl ?_
        refine wl_no rfl rfl rfl rfl rfl rfl ?_
        refine wl_go rfl rfl rfl rfl ?_
        refine wl_val rfl (ex_pick_f rfl rfl) ?_
        refine wl_go rfl rfl rfl rfl ?_
        refine wl_val rfl (ex_pick_f rfl rfl) ?_
        refine wl_val rfl (ex_pick_t rfl rfl) ?_
        refine wl_nil (nrm_then ?_)
        refine cw_false rfl ?_
        refine cw_exit (ex_then (ex_then (ex_here (nrm_then ?_))))
        refine cw_seq ?_
        refine cw_region ?_
        refine wl_val rfl (ex_move rfl) ?_
        refine wl_val rfl (ex_assign rfl) ?_
        refine wl_nil (nrm_then ?_)
        refine cw_ret (body_ret1 rfl rfl ?_)
        refine ⟨k, rfl, ⟨hk, hn, fun h hx => ?_⟩, hE10⟩
        first | omega | (rcases hx with hx | hx <;> first | contradiction | omega)
  · skip
    refine wl_no rfl rfl rfl rfl rfl rfl ?_
    refine wl_no rfl rfl rfl rfl rfl rfl ?_
    refine wl_no rfl rfl rfl rfl rfl rfl ?_
    refine wl_no rfl rfl rfl rfl rfl rfl ?_
    refine wl_no rfl rfl rfl rfl rfl rfl ?_
    refine wl_nou rfl rfl rfl rfl rfl ?_
    refine wl_nou rfl rfl rfl rfl rfl ?_
    refine wl_nou rfl rfl rfl rfl rfl ?_
    refine wl_nou rfl rfl rfl rfl rfl ?_
    refine wl_no rfl rfl rfl rfl rfl rfl ?_
    refine wl_no rfl rfl rfl rfl rfl rfl ?_
    refine wl_nou rfl rfl rfl rfl rfl ?_
    refine wl_nou rfl rfl rfl rfl rfl ?_
    refine wl_nou rfl rfl rfl rfl rfl ?_
    refine wl_nou rfl rfl rfl rfl rfl ?_
    refine wl_nou rfl rfl rfl rfl rfl ?_
    refine wl_nou rfl rfl rfl rfl rfl ?_
    refine wl_nou rfl rfl rfl rfl rfl ?_
    refine wl_no rfl rfl rfl rfl rfl rfl ?_
    refine wl_val rfl (ex_pick_f rfl rfl) ?_
    refine wl_nil (nrm_then ?_)
    refine cw_false rfl ?_
    refine cw_exit (ex_then (ex_then (ex_here (nrm_then ?_))))
    refine cw_seq ?_
    refine cw_region ?_
    refine wl_val rfl (ex_move rfl) ?_
    refine wl_val rfl (ex_assign rfl) ?_
    refine wl_nil (nrm_then ?_)
    refine cw_ret (body_ret1 rfl rfl ?_)
    refine ⟨k, rfl, ⟨hk, hn, fun h hx => ?_⟩, hE3⟩
    first | omega | (rcases hx with hx | hx <;> first | contradiction | omega)

theorem sz_pos {s : ByteArray} (h : ¬ s = ByteArray.mk #[]) : 0 < s.size := by
  rcases Nat.eq_zero_or_pos s.size with h0 | h0
  · exact absurd (ByteArray.ext (Array.eq_empty_of_size_eq_zero h0)) h
  · exact h0
theorem sz_zero {s : ByteArray} (h : ¬ ¬ s = ByteArray.mk #[]) : s.size = 0 := by rw [Classical.not_not.1 h]; rfl
theorem isLabel_ok {w : World} (s : ByteArray) (hl : s.size ≤ 140737488355328) : Calls Try.prog 42 #[.string s] w (Ret fun v w' => v = .bool (decide (LabelOk s)) ∧ Evo [] w w') := by
  refine calls_of_cw (N := 17) Try.func42 rfl rfl rfl ?_
  refine cw_seq ?_
  refine cw_region ?_
  refine wl_val rfl (ex_assign rfl) ?_
  refine wl_nil (nrm_then ?_)
  refine cw_seq ?_
  refine cw_region ?_
  refine wl_val rfl (ex_move rfl) ?_
  refine wl_val rfl (ex_neqs rfl rfl) ?_
  refine wl_val rfl (ex_move rfl) ?_
  refine wl_split (t := 5) rfl (fun hs5 => ?_) (fun hs5 => ?_)
  · skip
    refine wl_go rfl rfl rfl rfl ?_
    refine wl_val rfl (ex_move rfl) ?_
    refine wl_go rfl rfl rfl rfl ?_
    refine wl_val rfl (ex_sidx (n := 0) rfl rfl Try.underlying9 rfl (by have := sz_pos hs5; omega)) ?_
    refine wl_go rfl rfl rfl rfl ?_
    refine wl_call1 (vs := [_]) Try.goes53 rfl (letter_ok (sb s 0)) rfl ?_
    rintro _ w1 ⟨rfl, hw2⟩
    have hE3 := (Evo.refl [] w).then hw2
    refine wl_val rfl (ex_pick_t rfl rfl) ?_
    refine wl_val rfl (ex_move rfl) ?_
    refine wl_split (t := 10) rfl (fun hs10 => ?_) (fun hs10 => ?_)
    · skip
      refine wl_go rfl rfl rfl rfl ?_
      refine wl_val rfl (ex_move rfl) ?_
      refine wl_go rfl rfl rfl rfl ?_
      refine wl_call1 (vs := [_, _, _]) Try.goes54 rfl (nameEnd_ok s hl) rfl ?_
      rintro _ w4 ⟨k, rfl, hk, hw5⟩
      have hE6 := hE3.then hw5
      refine wl_go rfl rfl rfl rfl ?_
      refine wl_val rfl (ex_move rfl) ?_
      refine wl_go rfl rfl rfl rfl ?_
      refine wl_val rfl (ex_len_str rfl Try.underlying9 rfl) ?_
      refine wl_go rfl rfl rfl rfl ?_
      refine wl_val rfl (ex_eql rfl rfl) ?_
      refine wl_val rfl (ex_pick_t rfl rfl) ?_
      refine wl_val rfl (ex_assign rfl) ?_
      refine wl_nil (nrm_then ?_)
      refine cw_ret (body_ret1 rfl rfl ?_)
      refine ⟨congrArg Value.bool (Bool.eq_iff_iff.2 ?_), hE6⟩
      simp only [decide_eq_true_eq, Bool.false_eq_true, Bool.true_eq_false, true_iff, false_iff, eq_self, iff_true]
      unfold LabelOk
      first
        | (have h0 := sz_pos hs5; have h1 := label_end hk; constructor; exact fun h => ⟨h0, by assumption, h1.1 (by omega)⟩; exact fun h => by have := h1.2 h.2.2; omega)
        | exact fun h => absurd h.2.1 (by assumption)
        | exact fun h => absurd h.1 (by have := sz_zero hs5; omega)
    · skip
      refine wl_no rfl rfl rfl rfl rfl rfl ?_
      refine wl_no rfl rfl rfl rfl rfl rfl ?_
      refine wl_no rfl rfl rfl rfl rfl rfl ?_
      refine wl_no rfl rfl rfl rfl rfl rfl ?_
      refine wl_no rfl rfl rfl rfl rfl rfl ?_
      refine wl_val rfl (ex_pick_f rfl rfl) ?_
      refine wl_val rfl (ex_assign rfl) ?_
      refine wl_nil (nrm_then ?_)
      refine cw_ret (body_ret1 rfl rfl ?_)
      refine ⟨congrArg Value.bool (Bool.eq_iff_iff.2 ?_), hE3⟩
      simp only [decide_eq_true_eq, Bool.false_eq_true, Bool.true_eq_false, true_iff, false_iff, eq_self, iff_true]
      unfold LabelOk
      first
        | (have h0 := sz_pos hs5; have h1 := label_end hk; constructor; exact fun h => ⟨h0, by assumption, h1.1 (by omega)⟩; exact fun h => by have := h1.2 h.2.2; omega)
        | exact fun h => absurd h.2.1 (by assumption)
        | exact fun h => absurd h.1 (by have := sz_zero hs5; omega)
  · skip
    refine wl_no rfl rfl rfl rfl rfl rfl ?_
    refine wl_no rfl rfl rfl rfl rfl rfl ?_
    refine wl_no rfl rfl rfl rfl rfl rfl ?_
    refine wl_val rfl (ex_pick_f rfl rfl) ?_
    refine wl_val rfl (ex_move rfl) ?_
    refine wl_no rfl rfl rfl rfl rfl rfl ?_
    refine wl_no rfl rfl rfl rfl rfl rfl ?_
    refine wl_no rfl rfl rfl rfl rfl rfl ?_
    refine wl_no rfl rfl rfl rfl rfl rfl ?_
    refine wl_no rfl rfl rfl rfl rfl rfl ?_
    refine wl_val rfl (ex_pick_f rfl rfl) ?_
    refine wl_val rfl (ex_assign rfl) ?_
    refine wl_nil (nrm_then ?_)
    refine cw_ret (body_ret1 rfl rfl ?_)
    refine ⟨congrArg Value.bool (Bool.eq_iff_iff.2 ?_), (Evo.refl [] w)⟩
    simp only [decide_eq_true_eq, Bool.false_eq_true, Bool.true_eq_false, true_iff, false_iff, eq_self, iff_true]
    unfold LabelOk
    first
      | (have h0 := sz_pos hs5; have h1 := label_end hk; constructor; exact fun h => ⟨h0, by assumption, h1.1 (by omega)⟩; exact fun h => by have := h1.2 h.2.2; omega)
      | exact fun h => absurd h.2.1 (by assumption)
      | exact fun h => absurd h.1 (by have := sz_zero hs5; omega)

theorem replaced_ok {w : World} (s : ByteArray) (a : Nat) (ha : a ≤ s.size) (hl : s.size ≤ 140737488355328) : Calls Try.prog 55 #[.string s, .int .i64 (a : Nat)] w (Ret fun v w' => v = .bool (decide (RepAt s a)) ∧ Evo [] w w') := by
  refine calls_of_cw (N := 18) Try.func55 rfl rfl rfl ?_
  refine cw_seq ?_
  refine cw_region ?_
  refine wl_val rfl (ex_assign rfl) ?_
  refine wl_nil (nrm_then ?_)
  refine cw_seq ?_
  refine cw_region ?_
  refine wl_val rfl (ex_move rfl) ?_
  refine wl_val rfl (ex_add_i64 rfl rfl (by omega) (by omega)) ?_
  refine wl_val rfl (ex_move rfl) ?_
  refine wl_val rfl (ex_len_str rfl Try.underlying9 rfl) ?_
  refine wl_val rfl (ex_leq rfl rfl) ?_
  refine wl_val rfl (ex_move rfl) ?_
  refine wl_split (t := 10) rfl (fun hs10 => ?_) (fun hs10 => ?_)
  · skip
    refine wl_go rfl rfl rfl rfl ?_
    refine wl_val rfl (ex_move rfl) ?_
    refine wl_go rfl rfl rfl rfl ?_
    refine wl_val rfl (ex_move rfl) ?_
    refine wl_go rfl rfl rfl rfl ?_
    refine wl_val rfl (ex_move rfl) ?_
    refine wl_go rfl rfl rfl rfl ?_
    refine wl_val rfl (ex_add_i64 rfl rfl (by omega) (by omega)) ?_
    refine wl_go rfl rfl rfl rfl ?_
    refine wl_val rfl (ex_ssub (l := a) (h := a + 3) rfl rfl rfl Try.underlying9 rfl (by omega) (by omega) (by omega)) ?_
    refine wl_go rfl rfl rfl rfl ?_
    refine wl_val rfl (ex_eqs rfl rfl) ?_
    refine wl_val rfl (ex_pick_t rfl rfl) ?_
    refine wl_val rfl (ex_assign rfl) ?_
    refine wl_nil (nrm_then ?_)
    refine cw_ret (body_ret1 rfl rfl ?_)
    refine ⟨congrArg Value.bool (decide_eq_decide.2 ?_), (Evo.refl [] w)⟩
    constructor
    · exact fun h => ⟨by omega, h⟩
    · exact fun h => h.2
  · skip
    refine wl_no rfl rfl rfl rfl rfl rfl ?_
    refine wl_no rfl rfl rfl rfl rfl rfl ?_
    refine wl_no rfl rfl rfl rfl rfl rfl ?_
    refine wl_no rfl rfl rfl rfl rfl rfl ?_
    refine wl_no rfl rfl rfl rfl rfl rfl ?_
    refine wl_no rfl rfl rfl rfl rfl rfl ?_
    refine wl_val rfl (ex_pick_f rfl rfl) ?_
    refine wl_val rfl (ex_assign rfl) ?_
    refine wl_nil (nrm_then ?_)
    refine cw_ret (body_ret1 rfl rfl ?_)
    exact ⟨congrArg Value.bool (decide_eq_false (fun h => by have := h.1; omega)).symm, (Evo.refl [] w)⟩

theorem utf_ok {w : World} (s : ByteArray) (hl : s.size ≤ 140737488355328) : Calls Try.prog 43 #[.string s] w (Ret fun v w' => v = .bool (utfOk s) ∧ Evo [] w w') := by
  refine calls_of_cw (N := 19) Try.func43 rfl rfl rfl ?_
  refine cw_seq ?_
  refine cw_region ?_
  refine wl_val rfl (ex_assign rfl) ?_
  refine wl_nil (nrm_then ?_)
  refine cw_seq ?_
  refine cw_seq ?_
  refine cw_region ?_
  refine wl_val rfl (ex_move rfl) ?_
  refine wl_rangeS rfl rfl Try.underlying9 fun it w1 hB2 hs3 hw4 => ?_
  have hG5 := Ge.new (Evo.refl [] w) hs3
  have hE6 := (Evo.refl [] w).then hw4
  refine wl_nil (nrm_then ?_)
  refine cw_block ?_
  refine cw_loop (α := Nat × Nat) ((s.size + 1, 0)) (fun x => []) [(0, _), (6, _)] (fun x wr => Evo [] w wr ∧ (s.size < x.1 + x.2 ∧ utfFrom s x.1 x.2 = utfOk s ∧ wr.heap[it]? = some (.stringIter s x.2) ∧ w.heap.size ≤ it)) (fun x => x.1) trivial ⟨rfl, rfl, trivial⟩ ⟨hE6, ⟨by simp, rfl, hB2, hG5 _ rfl⟩⟩ ?_
  rintro ⟨f, p⟩ wr7 ⟨hV8, ⟨hf, hu, hIt, hg⟩⟩
  show CW _ _ _ _ [(0, _), (6, _)] _
  try dsimp only at hf
  try dsimp only at hu
  try dsimp only at hIt
  try dsimp only at hg
  have hGit : Ge w (some it) := fun g h => by cases h; exact hg
  refine cw_seq ?_
  refine cw_region ?_
  by_cases hn9 : p < s.size
  · skip
    refine wl_nextS rfl rfl hIt hn9 fun w10 hB11 hw12 => ?_
    have hE13 := hV8.step hw12 hGit.mem1
    obtain ⟨f, rfl⟩ : ∃ f', f = f' + 1 := ⟨f - 1, by omega⟩
    refine wl_val rfl (ex_extract rfl rfl) ?_
    refine wl_nil (nrm_then ?_)
    refine cw_seq ?_
    refine cw_true rfl ?_
    refine cw_skip (nrm_then ?_)
    refine cw_block ?_
    refine cw_seq ?_
    refine cw_region ?_
    refine wl_val rfl (ex_extract rfl rfl) ?_
    refine wl_val rfl (ex_extract rfl rfl) ?_
    refine wl_val rfl (ex_assign rfl) ?_
    refine wl_val rfl (ex_assign rfl) ?_
    refine wl_nil (nrm_then ?_)
    refine cw_seq ?_
    refine cw_region ?_
    refine wl_val rfl (ex_move rfl) ?_
    refine wl_val rfl (ex_eql rfl rfl) ?_
    refine wl_val rfl (ex_move rfl) ?_
    refine wl_split (t := 13) rfl (fun hs13 => ?_) (fun hs13 => ?_)
    · skip
      refine wl_go rfl rfl rfl rfl ?_
      refine wl_val rfl (ex_move rfl) ?_
      refine wl_go rfl rfl rfl rfl ?_
      refine wl_val rfl (ex_move rfl) ?_
      refine wl_go rfl rfl rfl rfl ?_
      refine wl_call1 (vs := [_, _]) Try.goes55 rfl (replaced_ok s p (by omega) hl) rfl ?_
      rintro _ w14 ⟨rfl, hw15⟩
      have hE16 := hE13.then hw15
      have hB17 := hw15.blk0 hB11
      refine wl_go rfl rfl rfl rfl ?_
      refine wl_val rfl (ex_not rfl) ?_
      refine wl_val rfl (ex_pick_t rfl rfl) ?_
      refine wl_nil (nrm_then ?_)
      refine cw_if rfl (fun hc18 => ?_) (fun hc18 => ?_)
      · skip
        refine cw_seq ?_
        refine cw_region ?_
        refine wl_val rfl (ex_assign rfl) ?_
        refine wl_nil (nrm_then ?_)
        refine cw_ret (ret_block (ret_then (ret_block (ret_then (body_ret1 rfl rfl ?_)))))
        exact ⟨by rw [← hu, utf_bad (by assumption) (by omega) (by assumption)], hE16⟩
      · skip
        refine cw_skip (nrm_block (nrm_same ?_))
        refine ⟨(f, p + (Utf8.decode s p).2), ?_, trivial, ⟨rfl, rfl, trivial⟩, hE16, ?_⟩
        · (try dsimp only); omega
        · skip
          try dsimp only
          have hdp := decode_pos s p (by assumption)
          exact ⟨by omega, by rw [← hu, utf_step (by assumption) (fun h => by first | (have := h.2; contradiction) | (have := h.1; omega))], hB17, hg⟩
    · skip
      refine wl_no rfl rfl rfl rfl rfl rfl ?_
      refine wl_no rfl rfl rfl rfl rfl rfl ?_
      refine wl_no rfl rfl rfl rfl rfl rfl ?_
      refine wl_no rfl rfl rfl rfl rfl rfl ?_
      refine wl_val rfl (ex_pick_f rfl rfl) ?_
      refine wl_nil (nrm_then ?_)
      refine cw_false rfl ?_
      refine cw_skip (nrm_block (nrm_same ?_))
      refine ⟨(f, p + (Utf8.decode s p).2), ?_, trivial, ⟨rfl, rfl, trivial⟩, hE13, ?_⟩
      · (try dsimp only); omega
      · skip
        try dsimp only
        have hdp := decode_pos s p (by assumption)
        exact ⟨by omega, by rw [← hu, utf_step (by assumption) (fun h => by first | (have := h.2; contradiction) | (have := h.1; omega))], hB11, hg⟩
  · skip
    refine wl_nextE rfl rfl hIt hn9 ?_
    refine wl_val rfl (ex_extract rfl rfl) ?_
    refine wl_nil (nrm_then ?_)
    refine cw_seq ?_
    refine cw_false rfl ?_
    refine cw_exit (ex_then (ex_then (ex_here (nrm_then ?_))))
    refine cw_seq ?_
    refine cw_region ?_
    refine wl_val rfl (ex_assign rfl) ?_
    refine wl_nil (nrm_then ?_)
    refine cw_ret (body_ret1 rfl rfl ?_)
    exact ⟨by rw [← hu, utf_end (by assumption)], hV8⟩

theorem valid_ok {X : List Nat} {w : World} {v : Value} {ls : List LB} (hs : RSl 2 RLB X w v ls) (hl : ls.length ≤ 1000000000) : Calls Try.prog 26 #[v] w (Ret fun v w' => ∃ b, v = .bool b ∧ (b = true ↔ lbOk ls) ∧ Evo [] w w') := by
  obtain ⟨sa, sc, rfl, hlc, e1⟩ := hs
  refine calls_of_cw (N := 43) Try.func26 rfl rfl rfl ?_
  refine cw_seq ?_
  refine cw_region ?_
  refine wl_val rfl (ex_assign rfl) ?_
  refine wl_nil (nrm_then ?_)
  refine cw_seq ?_
  refine cw_seq ?_
  refine cw_region ?_
  refine wl_val rfl (ex_move rfl) ?_
  refine wl_val rfl (ex_len_slice rfl Try.underlying31 rfl) ?_
  refine wl_val rfl (ex_move rfl) ?_
  refine wl_nil (nrm_then ?_)
  refine cw_block ?_
  refine cw_loop (α := Nat) (0) (fun k => [(7, .int .i64 (k : Nat))]) [(0, _), (5, _), (6, _)] (fun k wr => Evo [] w wr ∧ (k ≤ ls.length ∧ lbOkTo ls k)) (fun k => ls.length - k) ⟨rfl, trivial⟩ ⟨rfl, rfl, rfl, trivial⟩ ⟨Evo.refl _ _, ⟨Nat.zero_le _, fun i _ h => by omega⟩⟩ ?_
  rintro k wr1 ⟨hV2, ⟨hk, hok⟩⟩
  show CW _ _ _ _ [(7, _), (0, _), (5, _), (6, _)] _
  have hE3 := (Evo.refl [] w).then hV2
  refine cw_seq ?_
  refine cw_region ?_
  refine wl_val rfl (ex_lss rfl rfl) ?_
  refine wl_nil (nrm_then ?_)
  refine cw_seq ?_
  refine cw_if rfl (fun hc8 => ?_) (fun hc8 => ?_)
  · skip
    have hk' : k < ls.length := by omega
    obtain ⟨b1, o1, vs1, ha1, hb1, -, hc1, rfl, hz1, hz2⟩ := e1 k hk'
    refine cw_skip (nrm_then ?_)
    refine cw_seq ?_
    refine cw_block ?_
    refine cw_seq ?_
    refine cw_region ?_
    refine wl_val rfl (ex_move rfl) ?_
    refine wl_val rfl (ex_indexAddr (n := k) (by rw [ha1]; rfl) rfl Try.elem31 (by omega)) ?_
    refine wl_val rfl (ex_loadA rfl Try.agg33 Try.size33 (vs := [_, _]) rfl (hc1.evo hE3 (by simp))) ?_
    refine wl_alloc rfl Try.zero33 fun b4 w5 hB6 hs7 hw8 => ?_
    have hG9 := Ge.new hE3 hs7
    have hG10 := Ge.new hV2 hs7
    have hE11 := hE3.then hw8
    have hE12 := hV2.then hw8
    refine wl_val rfl (ex_assign rfl) ?_
    refine wl_storeBlk rfl rfl Try.size33 hB6 rfl rfl ⟨by first | rfl | assumption, by first | rfl | assumption, trivial⟩ fun w13 hB14 hw15 => ?_
    have hE16 := hE11.step hw15 hG9.mem1
    have hE17 := hE12.step hw15 hG10.mem1
    refine wl_nil (nrm_then ?_)
    refine cw_seq ?_
    refine cw_any (fun w0 w' => Evo [] w0 w') (by kernel_rfl) (fun w18 hw19 => ?_)
    have hE20 := hE16.then hw19
    have hE21 := hE17.then hw19
    have hB22 := hw19.blk0 hB14
    refine ae_take 0 rfl (by kernel_rfl) (by kernel_rfl) (by kernel_rfl) rfl (fun _ hS => ex_fieldAddr rfl Try.fld33_0) (Evo.refl [] w18) ?_
    refine ae_take 1 rfl (by kernel_rfl) (by kernel_rfl) (by kernel_rfl) rfl (fun _ hS => ex_load1 rfl Try.agg9 (cell_nth (hS.blk0 hB22) rfl)) (Evo.refl [] w18) ?_
    refine ae_loud [2] (by kernel_rfl) rfl ⟨?_, trivial⟩
    refine a_step rfl ?_
    refine wl_call1 (vs := [_]) Try.goes42 rfl (isLabel_ok ls[k].1 (by omega)) rfl ?_
    rintro _ w23 ⟨rfl, hw24⟩
    have hE25 := hE20.then hw24
    have hE26 := hE21.then hw24
    have hE27 := (Evo.refl [] w18).then hw24
    have hB28 := hw24.blk0 hB22
    refine wl_nil (ae_next (.inl hE27) ?_)
    refine ae_take 3 rfl (by kernel_rfl) (by kernel_rfl) (by kernel_rfl) rfl (fun _ hS => ex_not rfl) hE27 ?_
    refine ae_take 4 rfl (by kernel_rfl) (by kernel_rfl) (by kernel_rfl) rfl (fun _ hS => ex_move rfl) hE27 ?_
    refine ae_split (t := 16) rfl (fun hs16 => ?_) (fun hs16 => ?_)
    · skip
      refine ae_takeN 5 rfl rfl rfl rfl rfl rfl (by kernel_rfl) (by kernel_rfl) (by kernel_rfl) rfl hE27 ?_
      refine ae_takeN 6 rfl rfl rfl rfl rfl rfl (by kernel_rfl) (by kernel_rfl) (by kernel_rfl) rfl hE27 ?_
      refine ae_takeN 7 rfl rfl rfl rfl rfl rfl (by kernel_rfl) (by kernel_rfl) (by kernel_rfl) rfl hE27 ?_
      refine ae_take 8 rfl (by kernel_rfl) (by kernel_rfl) (by kernel_rfl) rfl (fun _ hS => ex_pick_t rfl rfl) hE27 ?_
      refine ae_take 9 rfl (by kernel_rfl) (by kernel_rfl) (by kernel_rfl) rfl (fun _ hS => ex_move rfl) hE27 ?_
      refine ae_takeN 10 rfl rfl rfl rfl rfl rfl (by kernel_rfl) (by kernel_rfl) (by kernel_rfl) rfl hE27 ?_
      refine ae_takeN 11 rfl rfl rfl rfl rfl rfl (by kernel_rfl) (by kernel_rfl) (by kernel_rfl) rfl hE27 ?_
      refine ae_loud [12] (by kernel_rfl) rfl ⟨?_, trivial⟩
      refine a_step rfl ?_
      refine wl_no rfl rfl rfl rfl rfl rfl ?_
      refine wl_nil (ae_next (.inl hE27) ?_)
      refine ae_takeN 13 rfl rfl rfl rfl rfl rfl (by kernel_rfl) (by kernel_rfl) (by kernel_rfl) rfl hE27 ?_
      refine ae_take 14 rfl (by kernel_rfl) (by kernel_rfl) (by kernel_rfl) rfl (fun _ hS => ex_pick_t rfl rfl) hE27 ?_
      refine ae_take 15 rfl (by kernel_rfl) (by kernel_rfl) (by kernel_rfl) rfl (fun _ hS => ex_move rfl) hE27 ?_
      refine ae_takeN 16 rfl rfl rfl rfl rfl rfl (by kernel_rfl) (by kernel_rfl) (by kernel_rfl) rfl hE27 ?_
      refine ae_takeN 17 rfl rfl rfl rfl rfl rfl (by kernel_rfl) (by kernel_rfl) (by kernel_rfl) rfl hE27 ?_
      refine ae_takeN 18 rfl rfl rfl rfl rfl rfl (by kernel_rfl) (by kernel_rfl) (by kernel_rfl) rfl hE27 ?_
      refine ae_takeU 19 rfl rfl rfl rfl rfl (by kernel_rfl) (by kernel_rfl) (by kernel_rfl) rfl hE27 ?_
      refine ae_takeU 20 rfl rfl rfl rfl rfl (by kernel_rfl) (by kernel_rfl) (by kernel_rfl) rfl hE27 ?_
      refine ae_takeU 21 rfl rfl rfl rfl rfl (by kernel_rfl) (by kernel_rfl) (by kernel_rfl) rfl hE27 ?_
      refine ae_takeU 22 rfl rfl rfl rfl rfl (by kernel_rfl) (by kernel_rfl) (by kernel_rfl) rfl hE27 ?_
      refine ae_takeU 23 rfl rfl rfl rfl rfl (by kernel_rfl) (by kernel_rfl) (by kernel_rfl) rfl hE27 ?_
      refine ae_takeU 24 rfl rfl rfl rfl rfl (by kernel_rfl) (by kernel_rfl) (by kernel_rfl) rfl hE27 ?_
      refine ae_takeU 25 rfl rfl rfl rfl rfl (by kernel_rfl) (by kernel_rfl) (by kernel_rfl) rfl hE27 ?_
      refine ae_takeU 26 rfl rfl rfl rfl rfl (by kernel_rfl) (by kernel_rfl) (by kernel_rfl) rfl hE27 ?_
      refine ae_takeU 27 rfl rfl rfl rfl rfl (by kernel_rfl) (by kernel_rfl) (by kernel_rfl) rfl hE27 ?_
      refine ae_takeN 28 rfl rfl rfl rfl rfl rfl (by kernel_rfl) (by kernel_rfl) (by kernel_rfl) rfl hE27 ?_
      refine ae_take 29 rfl (by kernel_rfl) (by kernel_rfl) (by kernel_rfl) rfl (fun _ hS => ex_pick_t rfl rfl) hE27 ?_
      refine ae_done (by kernel_rfl) (nrm_then ?_)
      refine cw_true rfl ?_
      refine cw_seq ?_
      refine cw_region ?_
      refine wl_val rfl (ex_assign rfl) ?_
      refine wl_nil (nrm_then ?_)
      refine cw_ret (ret_block (ret_then (ret_then (ret_block (ret_then (body_ret1 rfl rfl ?_))))))
      exact ⟨false, rfl, by simp only [Bool.false_eq_true, false_iff]; exact fun h => hs16 (h k hk').1, hE25⟩
    · skip
      refine ae_takeG 5 rfl rfl rfl rfl rfl (by kernel_rfl) (by kernel_rfl) (by kernel_rfl) rfl (fun _ hS => ex_fieldAddr rfl Try.fld33_1) hE27 ?_
      refine ae_takeG 6 rfl rfl rfl rfl rfl (by kernel_rfl) (by kernel_rfl) (by kernel_rfl) rfl (fun _ hS => ex_load1 rfl Try.agg9 (cell_nth (hS.blk0 hB22) rfl)) hE27 ?_
      refine ae_takeG 7 rfl rfl rfl rfl rfl (by kernel_rfl) (by kernel_rfl) (by kernel_rfl) rfl (fun _ hS => ex_eqs rfl rfl) hE27 ?_
      refine ae_take 8 rfl (by kernel_rfl) (by kernel_rfl) (by kernel_rfl) rfl (fun _ hS => ex_pick_f rfl rfl) hE27 ?_
      refine ae_take 9 rfl (by kernel_rfl) (by kernel_rfl) (by kernel_rfl) rfl (fun _ hS => ex_move rfl) hE27 ?_
      refine ae_split (t := 21) rfl (fun hs21 => ?_) (fun hs21 => ?_)
      · skip
        refine ae_takeN 10 rfl rfl rfl rfl rfl rfl (by kernel_rfl) (by kernel_rfl) (by kernel_rfl) rfl hE27 ?_
        refine ae_takeN 11 rfl rfl rfl rfl rfl rfl (by kernel_rfl) (by kernel_rfl) (by kernel_rfl) rfl hE27 ?_
        refine ae_loud [12] (by kernel_rfl) rfl ⟨?_, trivial⟩
        refine a_step rfl ?_
        refine wl_no rfl rfl rfl rfl rfl rfl ?_
        refine wl_nil (ae_next (.inl hE27) ?_)
        refine ae_takeN 13 rfl rfl rfl rfl rfl rfl (by kernel_rfl) (by kernel_rfl) (by kernel_rfl) rfl hE27 ?_
        refine ae_take 14 rfl (by kernel_rfl) (by kernel_rfl) (by kernel_rfl) rfl (fun _ hS => ex_pick_t rfl rfl) hE27 ?_
        refine ae_take 15 rfl (by kernel_rfl) (by kernel_rfl) (by kernel_rfl) rfl (fun _ hS => ex_move rfl) hE27 ?_
        refine ae_takeN 16 rfl rfl rfl rfl rfl rfl (by kernel_rfl) (by kernel_rfl) (by kernel_rfl) rfl hE27 ?_
        refine ae_takeN 17 rfl rfl rfl rfl rfl rfl (by kernel_rfl) (by kernel_rfl) (by kernel_rfl) rfl hE27 ?_
        refine ae_takeN 18 rfl rfl rfl rfl rfl rfl (by kernel_rfl) (by kernel_rfl) (by kernel_rfl) rfl hE27 ?_
        refine ae_takeU 19 rfl rfl rfl rfl rfl (by kernel_rfl) (by kernel_rfl) (by kernel_rfl) rfl hE27 ?_
        refine ae_takeU 20 rfl rfl rfl rfl rfl (by kernel_rfl) (by kernel_rfl) (by kernel_rfl) rfl hE27 ?_
        refine ae_takeU 21 rfl rfl rfl rfl rfl (by kernel_rfl) (by kernel_rfl) (by kernel_rfl) rfl hE27 ?_
        refine ae_takeU 22 rfl rfl rfl rfl rfl (by kernel_rfl) (by kernel_rfl) (by kernel_rfl) rfl hE27 ?_
        refine ae_takeU 23 rfl rfl rfl rfl rfl (by kernel_rfl) (by kernel_rfl) (by kernel_rfl) rfl hE27 ?_
        refine ae_takeU 24 rfl rfl rfl rfl rfl (by kernel_rfl) (by kernel_rfl) (by kernel_rfl) rfl hE27 ?_
        refine ae_takeU 25 rfl rfl rfl rfl rfl (by kernel_rfl) (by kernel_rfl) (by kernel_rfl) rfl hE27 ?_
        refine ae_takeU 26 rfl rfl rfl rfl rfl (by kernel_rfl) (by kernel_rfl) (by kernel_rfl) rfl hE27 ?_
        refine ae_takeU 27 rfl rfl rfl rfl rfl (by kernel_rfl) (by kernel_rfl) (by kernel_rfl) rfl hE27 ?_
        refine ae_takeN 28 rfl rfl rfl rfl rfl rfl (by kernel_rfl) (by kernel_rfl) (by kernel_rfl) rfl hE27 ?_
        refine ae_take 29 rfl (by kernel_rfl) (by kernel_rfl) (by kernel_rfl) rfl (fun _ hS => ex_pick_t rfl rfl) hE27 ?_
        refine ae_done (by kernel_rfl) (nrm_then ?_)
        refine cw_true rfl ?_
        refine cw_seq ?_
        refine cw_region ?_
        refine wl_val rfl (ex_assign rfl) ?_
        refine wl_nil (nrm_then ?_)
        refine cw_ret (ret_block (ret_then (ret_then (ret_block (ret_then (body_ret1 rfl rfl ?_))))))
        exact ⟨false, rfl, by simp only [Bool.false_eq_true, false_iff]; exact fun h => (h k hk').2.1 hs21, hE25⟩
      · skip
        refine ae_takeG 10 rfl rfl rfl rfl rfl (by kernel_rfl) (by kernel_rfl) (by kernel_rfl) rfl (fun _ hS => ex_fieldAddr rfl Try.fld33_1) hE27 ?_
        refine ae_takeG 11 rfl rfl rfl rfl rfl (by kernel_rfl) (by kernel_rfl) (by kernel_rfl) rfl (fun _ hS => ex_load1 rfl Try.agg9 (cell_nth (hS.blk0 hB22) rfl)) hE27 ?_
        refine ae_loud [12] (by kernel_rfl) rfl ⟨?_, trivial⟩
        refine a_step rfl ?_
        refine wl_go rfl rfl rfl rfl ?_
        refine wl_call1 (vs := [_]) Try.goes43 rfl (utf_ok ls[k].2 (by omega)) rfl ?_
        rintro _ w29 ⟨rfl, hw30⟩
        have hE31 := hE25.then hw30
        have hE32 := hE26.then hw30
        have hE33 := hE27.then hw30
        have hB34 := hw30.blk0 hB28
        refine wl_nil (ae_next (.inl hE33) ?_)
        refine ae_takeG 13 rfl rfl rfl rfl rfl (by kernel_rfl) (by kernel_rfl) (by kernel_rfl) rfl (fun _ hS => ex_notb rfl) hE33 ?_
        refine ae_take 14 rfl (by kernel_rfl) (by kernel_rfl) (by kernel_rfl) rfl (fun _ hS => ex_pick_f rfl rfl) hE33 ?_
        refine ae_take 15 rfl (by kernel_rfl) (by kernel_rfl) (by kernel_rfl) rfl (fun _ hS => ex_move rfl) hE33 ?_
        refine ae_splitb (t := 27) rfl (fun hs27 => ?_) (fun hs27 => ?_)
        · skip
          refine ae_takeN 16 rfl rfl rfl rfl rfl rfl (by kernel_rfl) (by kernel_rfl) (by kernel_rfl) rfl hE33 ?_
          refine ae_takeN 17 rfl rfl rfl rfl rfl rfl (by kernel_rfl) (by kernel_rfl) (by kernel_rfl) rfl hE33 ?_
          refine ae_takeN 18 rfl rfl rfl rfl rfl rfl (by kernel_rfl) (by kernel_rfl) (by kernel_rfl) rfl hE33 ?_
          refine ae_takeU 19 rfl rfl rfl rfl rfl (by kernel_rfl) (by kernel_rfl) (by kernel_rfl) rfl hE33 ?_
          refine ae_takeU 20 rfl rfl rfl rfl rfl (by kernel_rfl) (by kernel_rfl) (by kernel_rfl) rfl hE33 ?_
          refine ae_takeU 21 rfl rfl rfl rfl rfl (by kernel_rfl) (by kernel_rfl) (by kernel_rfl) rfl hE33 ?_
          refine ae_takeU 22 rfl rfl rfl rfl rfl (by kernel_rfl) (by kernel_rfl) (by kernel_rfl) rfl hE33 ?_
          refine ae_takeU 23 rfl rfl rfl rfl rfl (by kernel_rfl) (by kernel_rfl) (by kernel_rfl) rfl hE33 ?_
          refine ae_takeU 24 rfl rfl rfl rfl rfl (by kernel_rfl) (by kernel_rfl) (by kernel_rfl) rfl hE33 ?_
          refine ae_takeU 25 rfl rfl rfl rfl rfl (by kernel_rfl) (by kernel_rfl) (by kernel_rfl) rfl hE33 ?_
          refine ae_takeU 26 rfl rfl rfl rfl rfl (by kernel_rfl) (by kernel_rfl) (by kernel_rfl) rfl hE33 ?_
          refine ae_takeU 27 rfl rfl rfl rfl rfl (by kernel_rfl) (by kernel_rfl) (by kernel_rfl) rfl hE33 ?_
          refine ae_takeN 28 rfl rfl rfl rfl rfl rfl (by kernel_rfl) (by kernel_rfl) (by kernel_rfl) rfl hE33 ?_
          refine ae_take 29 rfl (by kernel_rfl) (by kernel_rfl) (by kernel_rfl) rfl (fun _ hS => ex_pick_t rfl rfl) hE33 ?_
          refine ae_done (by kernel_rfl) (nrm_then ?_)
          refine cw_true rfl ?_
          refine cw_seq ?_
          refine cw_region ?_
          refine wl_val rfl (ex_assign rfl) ?_
          refine wl_nil (nrm_then ?_)
          refine cw_ret (ret_block (ret_then (ret_then (ret_block (ret_then (body_ret1 rfl rfl ?_))))))
          exact ⟨false, rfl, by simp only [Bool.false_eq_true, false_iff]; exact fun h => (by rw [(h k hk').2.2.1] at hs27; cases hs27), hE31⟩
        · skip
          refine ae_takeG 16 rfl rfl rfl rfl rfl (by kernel_rfl) (by kernel_rfl) (by kernel_rfl) rfl (fun _ hS => ex_move rfl) hE33 ?_
          refine ae_takeG 17 rfl rfl rfl rfl rfl (by kernel_rfl) (by kernel_rfl) (by kernel_rfl) rfl (fun _ hS => ex_gtr rfl rfl) hE33 ?_
          refine ae_takeG 18 rfl rfl rfl rfl rfl (by kernel_rfl) (by kernel_rfl) (by kernel_rfl) rfl (fun _ hS => ex_move rfl) hE33 ?_
          refine ae_split (t := 30) rfl (fun hs30 => ?_) (fun hs30 => ?_)
          · skip
            obtain ⟨b2, o2, vs2, ha2, hb2, -, hc2, rfl, hz3, hz4⟩ := e1 (k - 1) (by omega)
            refine ae_takeG 19 rfl rfl rfl rfl rfl (by kernel_rfl) (by kernel_rfl) (by kernel_rfl) rfl (fun _ hS => ex_move rfl) hE33 ?_
            refine ae_takeG 20 rfl rfl rfl rfl rfl (by kernel_rfl) (by kernel_rfl) (by kernel_rfl) rfl (fun _ hS => ex_move rfl) hE33 ?_
            refine ae_takeG 21 rfl rfl rfl rfl rfl (by kernel_rfl) (by kernel_rfl) (by kernel_rfl) rfl (fun _ hS => ex_sub_i64 rfl rfl (by omega) (by omega)) hE33 ?_
            refine ae_takeG 22 rfl rfl rfl rfl rfl (by kernel_rfl) (by kernel_rfl) (by kernel_rfl) rfl (fun _ hS => ex_indexAddrZ (n := k - 1) (by rw [ha2]; rfl) rfl (by omega) Try.elem31 (by omega)) hE33 ?_
            refine ae_takeG 23 rfl rfl rfl rfl rfl (by kernel_rfl) (by kernel_rfl) (by kernel_rfl) rfl (fun _ hS => ex_fieldAddr rfl Try.fld33_0) hE33 ?_
            refine ae_takeG 24 rfl rfl rfl rfl rfl (by kernel_rfl) (by kernel_rfl) (by kernel_rfl) rfl (fun _ hS => ex_load1 rfl Try.agg9 ((hc2.evo (hE20.then hS) (by simp)) 0 _ rfl)) hE33 ?_
            refine ae_takeG 25 rfl rfl rfl rfl rfl (by kernel_rfl) (by kernel_rfl) (by kernel_rfl) rfl (fun _ hS => ex_fieldAddr rfl Try.fld33_0) hE33 ?_
            refine ae_takeG 26 rfl rfl rfl rfl rfl (by kernel_rfl) (by kernel_rfl) (by kernel_rfl) rfl (fun _ hS => ex_load1 rfl Try.agg9 (cell_nth (hS.blk0 hB22) rfl)) hE33 ?_
            refine ae_takeG 27 rfl rfl rfl rfl rfl (by kernel_rfl) (by kernel_rfl) (by kernel_rfl) rfl (fun _ hS => ex_sgeq rfl rfl) hE33 ?_
            refine ae_takeG 28 rfl rfl rfl rfl rfl (by kernel_rfl) (by kernel_rfl) (by kernel_rfl) rfl (fun _ hS => ex_pick_t rfl rfl) hE33 ?_
            refine ae_take 29 rfl (by kernel_rfl) (by kernel_rfl) (by kernel_rfl) rfl (fun _ hS => ex_pick_f rfl rfl) hE33 ?_
            refine ae_done (by kernel_rfl) (nrm_then ?_)
            refine cw_if rfl (fun hc41 => ?_) (fun hc41 => ?_)
            · skip
              refine cw_seq ?_
              refine cw_region ?_
              refine wl_val rfl (ex_assign rfl) ?_
              refine wl_nil (nrm_then ?_)
              refine cw_ret (ret_block (ret_then (ret_then (ret_block (ret_then (body_ret1 rfl rfl ?_))))))
              exact ⟨false, rfl, by simp only [Bool.false_eq_true, false_iff]; exact fun h => hc41 ((h k hk').2.2.2 (k - 1) (by omega) (by omega)), hE31⟩
            · skip
              refine cw_skip (nrm_block (nrm_then ?_))
              refine cw_region ?_
              refine wl_val rfl (ex_add_i64 rfl rfl (by omega) (by omega)) ?_
              refine wl_val rfl (ex_move rfl) ?_
              refine wl_nil (nrm_same ?_)
              refine ⟨k + 1, ?_, ⟨rfl, trivial⟩, ⟨rfl, rfl, rfl, trivial⟩, hE32, ?_⟩
              · omega
              · skip
                exact ⟨by omega, hok.succ hk' (Classical.not_not.1 hs16) hs21 (by simpa using hs27) (fun j hj e => by subst e; exact Classical.not_not.1 hc41)⟩
          · skip
            refine ae_takeN 19 rfl rfl rfl rfl rfl rfl (by kernel_rfl) (by kernel_rfl) (by kernel_rfl) rfl hE33 ?_
            refine ae_takeN 20 rfl rfl rfl rfl rfl rfl (by kernel_rfl) (by kernel_rfl) (by kernel_rfl) rfl hE33 ?_
            refine ae_takeN 21 rfl rfl rfl rfl rfl rfl (by kernel_rfl) (by kernel_rfl) (by kernel_rfl) rfl hE33 ?_
            refine ae_takeN 22 rfl rfl rfl rfl rfl rfl (by kernel_rfl) (by kernel_rfl) (by kernel_rfl) rfl hE33 ?_
            refine ae_takeN 23 rfl rfl rfl rfl rfl rfl (by kernel_rfl) (by kernel_rfl) (by kernel_rfl) rfl hE33 ?_
            refine ae_takeN 24 rfl rfl rfl rfl rfl rfl (by kernel_rfl) (by kernel_rfl) (by kernel_rfl) rfl hE33 ?_
            refine ae_takeN 25 rfl rfl rfl rfl rfl rfl (by kernel_rfl) (by kernel_rfl) (by kernel_rfl) rfl hE33 ?_
            refine ae_takeN 26 rfl rfl rfl rfl rfl rfl (by kernel_rfl) (by kernel_rfl) (by kernel_rfl) rfl hE33 ?_
            refine ae_takeN 27 rfl rfl rfl rfl rfl rfl (by kernel_rfl) (by kernel_rfl) (by kernel_rfl) rfl hE33 ?_
            refine ae_takeG 28 rfl rfl rfl rfl rfl (by kernel_rfl) (by kernel_rfl) (by kernel_rfl) rfl (fun _ hS => ex_pick_f rfl rfl) hE33 ?_
            refine ae_take 29 rfl (by kernel_rfl) (by kernel_rfl) (by kernel_rfl) rfl (fun _ hS => ex_pick_f rfl rfl) hE33 ?_
            refine ae_done (by kernel_rfl) (nrm_then ?_)
            refine cw_false rfl ?_
            refine cw_skip (nrm_block (nrm_then ?_))
            refine cw_region ?_
            refine wl_val rfl (ex_add_i64 rfl rfl (by omega) (by omega)) ?_
            refine wl_val rfl (ex_move rfl) ?_
            refine wl_nil (nrm_same ?_)
            refine ⟨k + 1, ?_, ⟨rfl, trivial⟩, ⟨rfl, rfl, rfl, trivial⟩, hE32, ?_⟩
            · omega
            · skip
              exact ⟨by omega, hok.succ hk' (Classical.not_not.1 hs16) hs21 (by simpa using hs27) (fun j hj e => by omega)⟩
  · skip
    refine cw_exit (ex_then (ex_then (ex_here (nrm_then ?_))))
    refine cw_seq ?_
    refine cw_region ?_
    refine wl_val rfl (ex_assign rfl) ?_
    refine wl_nil (nrm_then ?_)
    refine cw_ret (body_ret1 rfl rfl ?_)
    exact ⟨true, rfl, by simp only [true_iff]; exact fun i hi => hok i hi (by omega), hE3⟩

end Go.Proofs.Ytebghjbfdpeipaa
