/- The law's own run of a program: wordByte, goes, runeAt. -/
import Derived.Test.YtgboffefbpligaaPf
import Derived.Test.YtgboffefbpligaaTc
namespace Go.Proofs.Ytgboffefbpligaa
open Go.Proofs
open Go.W Go.RowKit
attribute [local irreducible] Decidable.decide
set_option linter.unusedSimpArgs false
set_option linter.unusedVariables false
theorem Try.agg44 : aggB Try.prog 44 = some true := by kernel_rfl
theorem Try.fld44_0 : fieldB Try.prog 44 0 = some 0 := by kernel_rfl
theorem Try.fld44_3 : fieldB Try.prog 44 3 = some 3 := by kernel_rfl
theorem Try.goes58 : Goes Try.prog 58 := ⟨_, Try.func58, by kernel_rfl, by kernel_rfl⟩
theorem Try.size44 : sizeB Try.prog 44 = some 5 := by kernel_rfl

theorem wordByte_ok {w : World} (s : ByteArray) (j : Int) : Calls Try.prog 58 #[.string s, .int .i64 j] w (Ret fun v w' => v = .bool (decide (WordB s j)) ∧ Evo [] w w') := by
  refine calls_of_cw (N := 43) Try.func58 rfl rfl rfl ?_
  refine cw_seq ?_
  refine cw_region ?_
  refine wl_a ?_
  refine wl_nil (nrm_then ?_)
  refine cw_seq ?_
  refine cw_seq ?_
  refine cw_region ?_
  refine wl_m ?_
  refine wl_val rfl (ex_lss rfl rfl) ?_
  refine wl_m ?_
  refine wl_split (t := 8) rfl (fun hs8 => ?_) (fun hs8 => ?_)
  ·skip
   refine wl_n ?_
   refine wl_n ?_
   refine wl_n ?_
   refine wl_n ?_
   refine wl_pt ?_
   refine wl_nil (nrm_then ?_)
   refine cw_true rfl ?_
   refine cw_seq ?_
   refine cw_region ?_
   refine wl_a ?_
   refine wl_nil (nrm_then ?_)
   refine cw_ret (ret_then (body_ret1 rfl rfl ?_))
   refine ⟨congrArg Value.bool (Bool.eq_iff_iff.2 ?_), (Evo.refl [] w)⟩
   simp only [decide_eq_true_eq, Bool.false_eq_true, Bool.true_eq_false, true_iff, false_iff, eq_self, iff_true]; unfold WordB wordN; omega
  ·skip
   refine wl_g ?_
   refine wl_m ?_
   refine wl_g ?_
   refine wl_m ?_
   refine wl_g ?_
   refine wl_val rfl (ex_len_str rfl Try.underlying9 rfl) ?_
   refine wl_g ?_
   refine wl_val rfl (ex_geq rfl rfl) ?_
   refine wl_pf ?_
   refine wl_nil (nrm_then ?_)
   refine cw_if rfl (fun hc13 => ?_) (fun hc13 => ?_)
   ·skip
    refine cw_seq ?_
    refine cw_region ?_
    refine wl_a ?_
    refine wl_nil (nrm_then ?_)
    refine cw_ret (ret_then (body_ret1 rfl rfl ?_))
    refine ⟨congrArg Value.bool (Bool.eq_iff_iff.2 ?_), (Evo.refl [] w)⟩
    simp only [decide_eq_true_eq, Bool.false_eq_true, Bool.true_eq_false, true_iff, false_iff, eq_self, iff_true]; unfold WordB wordN; omega
   ·skip
    refine cw_skip (nrm_then ?_)
    refine cw_seq ?_
    refine cw_region ?_
    refine wl_m ?_
    refine wl_m ?_
    refine wl_val rfl (ex_sidx (n := j.toNat) rfl rfl Try.underlying9 (by omega) (by omega)) ?_
    refine wl_a ?_
    refine wl_nil (nrm_then ?_)
    refine cw_seq ?_
    refine cw_region ?_
    refine wl_m ?_
    refine wl_val rfl (ex_geq rfl rfl) ?_
    refine wl_m ?_
    refine wl_split (t := 19) rfl (fun hs19 => ?_) (fun hs19 => ?_)
    ·skip
     refine wl_g ?_
     refine wl_m ?_
     refine wl_g ?_
     refine wl_val rfl (ex_leq rfl rfl) ?_
     refine wl_pt ?_
     refine wl_m ?_
     refine wl_split (t := 23) rfl (fun hs23 => ?_) (fun hs23 => ?_)
     ·skip
      refine wl_n ?_
      refine wl_n ?_
      refine wl_n ?_
      refine wl_u ?_
      refine wl_u ?_
      refine wl_n ?_
      refine wl_pt ?_
      refine wl_m ?_
      refine wl_n ?_
      refine wl_n ?_
      refine wl_n ?_
      refine wl_u ?_
      refine wl_u ?_
      refine wl_n ?_
      refine wl_pt ?_
      refine wl_m ?_
      refine wl_n ?_
      refine wl_n ?_
      refine wl_pt ?_
      refine wl_a ?_
      refine wl_nil (nrm_then ?_)
      refine cw_ret (body_ret1 rfl rfl ?_)
      refine ⟨congrArg Value.bool (Bool.eq_iff_iff.2 ?_), (Evo.refl [] w)⟩
      simp only [decide_eq_true_eq, Bool.false_eq_true, Bool.true_eq_false, true_iff, false_iff, eq_self, iff_true]; unfold WordB wordN; omega
     ·skip
      refine wl_g ?_
      refine wl_m ?_
      refine wl_g ?_
      refine wl_val rfl (ex_geq rfl rfl) ?_
      refine wl_g ?_
      refine wl_m ?_
      refine wl_split (t := 26) rfl (fun hs26 => ?_) (fun hs26 => ?_)
      ·skip
       refine wl_g ?_
       refine wl_m ?_
       refine wl_g ?_
       refine wl_val rfl (ex_leq rfl rfl) ?_
       refine wl_g ?_
       refine wl_pt ?_
       refine wl_pf ?_
       refine wl_m ?_
       refine wl_split (t := 31) rfl (fun hs31 => ?_) (fun hs31 => ?_)
       ·skip
        refine wl_n ?_
        refine wl_n ?_
        refine wl_n ?_
        refine wl_u ?_
        refine wl_u ?_
        refine wl_n ?_
        refine wl_pt ?_
        refine wl_m ?_
        refine wl_n ?_
        refine wl_n ?_
        refine wl_pt ?_
        refine wl_a ?_
        refine wl_nil (nrm_then ?_)
        refine cw_ret (body_ret1 rfl rfl ?_)
        refine ⟨congrArg Value.bool (Bool.eq_iff_iff.2 ?_), (Evo.refl [] w)⟩
        simp only [decide_eq_true_eq, Bool.false_eq_true, Bool.true_eq_false, true_iff, false_iff, eq_self, iff_true]; unfold WordB wordN; omega
       ·skip
        refine wl_g ?_
        refine wl_m ?_
        refine wl_g ?_
        refine wl_val rfl (ex_geq rfl rfl) ?_
        refine wl_g ?_
        refine wl_m ?_
        refine wl_split (t := 34) rfl (fun hs34 => ?_) (fun hs34 => ?_)
        ·skip
         refine wl_g ?_
         refine wl_m ?_
         refine wl_g ?_
         refine wl_val rfl (ex_leq rfl rfl) ?_
         refine wl_g ?_
         refine wl_pt ?_
         refine wl_pf ?_
         refine wl_m ?_
         refine wl_split (t := 39) rfl (fun hs39 => ?_) (fun hs39 => ?_)
         ·skip
          refine wl_n ?_
          refine wl_n ?_
          refine wl_pt ?_
          refine wl_a ?_
          refine wl_nil (nrm_then ?_)
          refine cw_ret (body_ret1 rfl rfl ?_)
          refine ⟨congrArg Value.bool (Bool.eq_iff_iff.2 ?_), (Evo.refl [] w)⟩
          simp only [decide_eq_true_eq, Bool.false_eq_true, Bool.true_eq_false, true_iff, false_iff, eq_self, iff_true]; unfold WordB wordN; omega
         ·skip
          refine wl_g ?_
          refine wl_m ?_
          refine wl_g ?_
          refine wl_val rfl (ex_eql rfl rfl) ?_
          refine wl_pf ?_
          refine wl_a ?_
          refine wl_nil (nrm_then ?_)
          refine cw_ret (body_ret1 rfl rfl ?_)
          refine ⟨congrArg Value.bool (Bool.eq_iff_iff.2 ?_), (Evo.refl [] w)⟩
          simp only [decide_eq_true_eq, Bool.false_eq_true, Bool.true_eq_false, true_iff, false_iff, eq_self, iff_true]; unfold WordB wordN; omega
        ·skip
         refine wl_n ?_
         refine wl_n ?_
         refine wl_g ?_
         refine wl_pf ?_
         refine wl_pf ?_
         refine wl_m ?_
         refine wl_g ?_
         refine wl_m ?_
         refine wl_g ?_
         refine wl_val rfl (ex_eql rfl rfl) ?_
         refine wl_pf ?_
         refine wl_a ?_
         refine wl_nil (nrm_then ?_)
         refine cw_ret (body_ret1 rfl rfl ?_)
         refine ⟨congrArg Value.bool (Bool.eq_iff_iff.2 ?_), (Evo.refl [] w)⟩
         simp only [decide_eq_true_eq, Bool.false_eq_true, Bool.true_eq_false, true_iff, false_iff, eq_self, iff_true]; unfold WordB wordN; omega
      ·skip
       refine wl_n ?_
       refine wl_n ?_
       refine wl_g ?_
       refine wl_pf ?_
       refine wl_pf ?_
       refine wl_m ?_
       refine wl_g ?_
       refine wl_m ?_
       refine wl_g ?_
       refine wl_val rfl (ex_geq rfl rfl) ?_
       refine wl_g ?_
       refine wl_m ?_
       refine wl_split (t := 34) rfl (fun hs34 => ?_) (fun hs34 => ?_)
       ·skip
        refine wl_g ?_
        refine wl_m ?_
        refine wl_g ?_
        refine wl_val rfl (ex_leq rfl rfl) ?_
        refine wl_g ?_
        refine wl_pt ?_
        refine wl_pf ?_
        refine wl_m ?_
        refine wl_split (t := 39) rfl (fun hs39 => ?_) (fun hs39 => ?_)
        ·skip
         refine wl_n ?_
         refine wl_n ?_
         refine wl_pt ?_
         refine wl_a ?_
         refine wl_nil (nrm_then ?_)
         refine cw_ret (body_ret1 rfl rfl ?_)
         refine ⟨congrArg Value.bool (Bool.eq_iff_iff.2 ?_), (Evo.refl [] w)⟩
         simp only [decide_eq_true_eq, Bool.false_eq_true, Bool.true_eq_false, true_iff, false_iff, eq_self, iff_true]; unfold WordB wordN; omega
        ·skip
         refine wl_g ?_
         refine wl_m ?_
         refine wl_g ?_
         refine wl_val rfl (ex_eql rfl rfl) ?_
         refine wl_pf ?_
         refine wl_a ?_
         refine wl_nil (nrm_then ?_)
         refine cw_ret (body_ret1 rfl rfl ?_)
         refine ⟨congrArg Value.bool (Bool.eq_iff_iff.2 ?_), (Evo.refl [] w)⟩
         simp only [decide_eq_true_eq, Bool.false_eq_true, Bool.true_eq_false, true_iff, false_iff, eq_self, iff_true]; unfold WordB wordN; omega
       ·skip
        refine wl_n ?_
        refine wl_n ?_
        refine wl_g ?_
        refine wl_pf ?_
        refine wl_pf ?_
        refine wl_m ?_
        refine wl_g ?_
        refine wl_m ?_
        refine wl_g ?_
        refine wl_val rfl (ex_eql rfl rfl) ?_
        refine wl_pf ?_
        refine wl_a ?_
        refine wl_nil (nrm_then ?_)
        refine cw_ret (body_ret1 rfl rfl ?_)
        refine ⟨congrArg Value.bool (Bool.eq_iff_iff.2 ?_), (Evo.refl [] w)⟩
        simp only [decide_eq_true_eq, Bool.false_eq_true, Bool.true_eq_false, true_iff, false_iff, eq_self, iff_true]; unfold WordB wordN; omega
    ·skip
     refine wl_n ?_
     refine wl_n ?_
     refine wl_pf ?_
     refine wl_m ?_
     refine wl_g ?_
     refine wl_m ?_
     refine wl_g ?_
     refine wl_val rfl (ex_geq rfl rfl) ?_
     refine wl_g ?_
     refine wl_m ?_
     refine wl_split (t := 26) rfl (fun hs26 => ?_) (fun hs26 => ?_)
     ·skip
      refine wl_g ?_
      refine wl_m ?_
      refine wl_g ?_
      refine wl_val rfl (ex_leq rfl rfl) ?_
      refine wl_g ?_
      refine wl_pt ?_
      refine wl_pf ?_
      refine wl_m ?_
      refine wl_split (t := 31) rfl (fun hs31 => ?_) (fun hs31 => ?_)
      ·skip
       refine wl_n ?_
       refine wl_n ?_
       refine wl_n ?_
       refine wl_u ?_
       refine wl_u ?_
       refine wl_n ?_
       refine wl_pt ?_
       refine wl_m ?_
       refine wl_n ?_
       refine wl_n ?_
       refine wl_pt ?_
       refine wl_a ?_
       refine wl_nil (nrm_then ?_)
       refine cw_ret (body_ret1 rfl rfl ?_)
       refine ⟨congrArg Value.bool (Bool.eq_iff_iff.2 ?_), (Evo.refl [] w)⟩
       simp only [decide_eq_true_eq, Bool.false_eq_true, Bool.true_eq_false, true_iff, false_iff, eq_self, iff_true]; unfold WordB wordN; omega
      ·skip
       refine wl_g ?_
       refine wl_m ?_
       refine wl_g ?_
       refine wl_val rfl (ex_geq rfl rfl) ?_
       refine wl_g ?_
       refine wl_m ?_
       refine wl_split (t := 34) rfl (fun hs34 => ?_) (fun hs34 => ?_)
       ·skip
        refine wl_g ?_
        refine wl_m ?_
        refine wl_g ?_
        refine wl_val rfl (ex_leq rfl rfl) ?_
        refine wl_g ?_
        refine wl_pt ?_
        refine wl_pf ?_
        refine wl_m ?_
        refine wl_split (t := 39) rfl (fun hs39 => ?_) (fun hs39 => ?_)
        ·skip
         refine wl_n ?_
         refine wl_n ?_
         refine wl_pt ?_
         refine wl_a ?_
         refine wl_nil (nrm_then ?_)
         refine cw_ret (body_ret1 rfl rfl ?_)
         refine ⟨congrArg Value.bool (Bool.eq_iff_iff.2 ?_), (Evo.refl [] w)⟩
         simp only [decide_eq_true_eq, Bool.false_eq_true, Bool.true_eq_false, true_iff, false_iff, eq_self, iff_true]; unfold WordB wordN; omega
        ·skip
         refine wl_g ?_
         refine wl_m ?_
         refine wl_g ?_
         refine wl_val rfl (ex_eql rfl rfl) ?_
         refine wl_pf ?_
         refine wl_a ?_
         refine wl_nil (nrm_then ?_)
         refine cw_ret (body_ret1 rfl rfl ?_)
         refine ⟨congrArg Value.bool (Bool.eq_iff_iff.2 ?_), (Evo.refl [] w)⟩
         simp only [decide_eq_true_eq, Bool.false_eq_true, Bool.true_eq_false, true_iff, false_iff, eq_self, iff_true]; unfold WordB wordN; omega
       ·skip
        refine wl_n ?_
        refine wl_n ?_
        refine wl_g ?_
        refine wl_pf ?_
        refine wl_pf ?_
        refine wl_m ?_
        refine wl_g ?_
        refine wl_m ?_
        refine wl_g ?_
        refine wl_val rfl (ex_eql rfl rfl) ?_
        refine wl_pf ?_
        refine wl_a ?_
        refine wl_nil (nrm_then ?_)
        refine cw_ret (body_ret1 rfl rfl ?_)
        refine ⟨congrArg Value.bool (Bool.eq_iff_iff.2 ?_), (Evo.refl [] w)⟩
        simp only [decide_eq_true_eq, Bool.false_eq_true, Bool.true_eq_false, true_iff, false_iff, eq_self, iff_true]; unfold WordB wordN; omega
     ·skip
      refine wl_n ?_
      refine wl_n ?_
      refine wl_g ?_
      refine wl_pf ?_
      refine wl_pf ?_
      refine wl_m ?_
      refine wl_g ?_
      refine wl_m ?_
      refine wl_g ?_
      refine wl_val rfl (ex_geq rfl rfl) ?_
      refine wl_g ?_
      refine wl_m ?_
      refine wl_split (t := 34) rfl (fun hs34 => ?_) (fun hs34 => ?_)
      ·skip
       refine wl_g ?_
       refine wl_m ?_
       refine wl_g ?_
       refine wl_val rfl (ex_leq rfl rfl) ?_
       refine wl_g ?_
       refine wl_pt ?_
       refine wl_pf ?_
       refine wl_m ?_
       refine wl_split (t := 39) rfl (fun hs39 => ?_) (fun hs39 => ?_)
       ·skip
        refine wl_n ?_
        refine wl_n ?_
        refine wl_pt ?_
        refine wl_a ?_
        refine wl_nil (nrm_then ?_)
        refine cw_ret (body_ret1 rfl rfl ?_)
        refine ⟨congrArg Value.bool (Bool.eq_iff_iff.2 ?_), (Evo.refl [] w)⟩
        simp only [decide_eq_true_eq, Bool.false_eq_true, Bool.true_eq_false, true_iff, false_iff, eq_self, iff_true]; unfold WordB wordN; omega
       ·skip
        refine wl_g ?_
        refine wl_m ?_
        refine wl_g ?_
        refine wl_val rfl (ex_eql rfl rfl) ?_
        refine wl_pf ?_
        refine wl_a ?_
        refine wl_nil (nrm_then ?_)
        refine cw_ret (body_ret1 rfl rfl ?_)
        refine ⟨congrArg Value.bool (Bool.eq_iff_iff.2 ?_), (Evo.refl [] w)⟩
        simp only [decide_eq_true_eq, Bool.false_eq_true, Bool.true_eq_false, true_iff, false_iff, eq_self, iff_true]; unfold WordB wordN; omega
      ·skip
       refine wl_n ?_
       refine wl_n ?_
       refine wl_g ?_
       refine wl_pf ?_
       refine wl_pf ?_
       refine wl_m ?_
       refine wl_g ?_
       refine wl_m ?_
       refine wl_g ?_
       refine wl_val rfl (ex_eql rfl rfl) ?_
       refine wl_pf ?_
       refine wl_a ?_
       refine wl_nil (nrm_then ?_)
       refine cw_ret (body_ret1 rfl rfl ?_)
       refine ⟨congrArg Value.bool (Bool.eq_iff_iff.2 ?_), (Evo.refl [] w)⟩
       simp only [decide_eq_true_eq, Bool.false_eq_true, Bool.true_eq_false, true_iff, false_iff, eq_self, iff_true]; unfold WordB wordN; omega

theorem goes_ok {w : World} (s : ByteArray) (c : In) {vr : Value} (i : Nat) (hi : i ≤ s.size) (hs : s.size ≤ 1000000000) (hv : vr.cells = #[vr]) : Calls Try.prog 36 #[.agg #[iv c.op, iv c.out, iv c.alt, iv c.arg, vr], .string s, .int .i64 (i : Nat)] w (Ret fun v w' => v = .bool (decide (GoesB s c i)) ∧ Evo [] w w') := by
  refine calls_of_cw (N := 62) Try.func36 rfl rfl rfl ?_
  refine cw_seq ?_
  refine cw_region ?_
  refine wl_boxA rfl rfl fun b1 w2 hB3 hs4 hw5 => ?_
  have hG6 := Ge.new (Evo.refl [] w) hs4
  have hE7 := (Evo.refl [] w).then hw5
  refine wl_a ?_
  refine wl_nil (nrm_then ?_)
  refine cw_seq ?_
  refine cw_region ?_
  refine wl_m ?_
  refine wl_m ?_
  refine wl_val rfl (ex_sub_i64 rfl rfl (by omega) (by omega)) ?_
  refine wl_call1 (vs := [_, _]) Try.goes58 rfl (wordByte_ok s ((i : Int) - 1)) rfl ?_
  rintro _ w8 ⟨rfl, hw9⟩
  have hE10 := hE7.then hw9
  have hB11 := hw9.blk0 hB3
  refine wl_m ?_
  refine wl_m ?_
  refine wl_call1 (vs := [_, _]) Try.goes58 rfl (wordByte_ok s i) rfl ?_
  rintro _ w12 ⟨rfl, hw13⟩
  have hE14 := hE10.then hw13
  have hB15 := hw13.blk0 hB11
  refine wl_val rfl (ex_neqb rfl rfl Try.underlying4) ?_
  refine wl_a ?_
  refine wl_nil (nrm_then ?_)
  refine cw_seq ?_
  refine cw_seq ?_
  refine cw_region ?_
  refine wl_val rfl (ex_fieldAddr rfl Try.fld44_0) ?_
  refine wl_val rfl (ex_load1 rfl Try.agg3 (cell_nth hB15 rfl)) ?_
  refine wl_nil (nrm_then ?_)
  refine cw_block ?_
  refine cw_seq ?_
  refine cw_seq ?_
  refine cw_region ?_
  refine wl_val rfl (ex_eql rfl rfl) ?_
  refine wl_a ?_
  refine wl_nil (nrm_then ?_)
  refine cw_if rfl (fun hc18 => ?_) (fun hc18 => ?_)
  ·skip
   refine cw_skip (nrm_then ?_)
   refine cw_if rfl (fun hc18 => ?_) (fun hc18 => ?_)
   ·skip
    refine cw_seq ?_
    refine cw_region ?_
    refine wl_a ?_
    refine wl_nil (nrm_then ?_)
    refine cw_ret (ret_block (ret_then (body_ret1 rfl rfl ?_)))
    refine ⟨congrArg Value.bool (Bool.eq_iff_iff.2 ?_), hE14⟩
    simp only [decide_eq_true_eq, Bool.false_eq_true, Bool.true_eq_false, true_iff, false_iff, eq_self, iff_true]; unfold GoesB; omega
   ·skip
    refine cw_seq ?_
    refine cw_region ?_
    refine wl_val rfl (ex_eql rfl rfl) ?_
    refine wl_a ?_
    refine wl_nil (nrm_then ?_)
    refine cw_if rfl (fun hc22 => ?_) (fun hc22 => ?_)
    ·skip
     refine cw_seq ?_
     refine cw_region ?_
     refine wl_m ?_
     refine wl_val rfl (ex_eql rfl rfl) ?_
     refine wl_a ?_
     refine wl_nil (nrm_then ?_)
     refine cw_ret (ret_block (ret_then (body_ret1 rfl rfl ?_)))
     refine ⟨congrArg Value.bool (Bool.eq_iff_iff.2 ?_), hE14⟩
     simp only [decide_eq_true_eq, Bool.false_eq_true, Bool.true_eq_false, true_iff, false_iff, eq_self, iff_true]; unfold GoesB; omega
    ·skip
     refine cw_seq ?_
     refine cw_region ?_
     refine wl_val rfl (ex_eql rfl rfl) ?_
     refine wl_a ?_
     refine wl_nil (nrm_then ?_)
     refine cw_if rfl (fun hc26 => ?_) (fun hc26 => ?_)
     ·skip
      refine cw_seq ?_
      refine cw_region ?_
      refine wl_m ?_
      refine wl_m ?_
      refine wl_val rfl (ex_len_str rfl Try.underlying9 rfl) ?_
      refine wl_val rfl (ex_eql rfl rfl) ?_
      refine wl_a ?_
      refine wl_nil (nrm_then ?_)
      refine cw_ret (ret_block (ret_then (body_ret1 rfl rfl ?_)))
      refine ⟨congrArg Value.bool (Bool.eq_iff_iff.2 ?_), hE14⟩
      simp only [decide_eq_true_eq, Bool.false_eq_true, Bool.true_eq_false, true_iff, false_iff, eq_self, iff_true]; unfold GoesB; omega
     ·skip
      refine cw_seq ?_
      refine cw_region ?_
      refine wl_val rfl (ex_eql rfl rfl) ?_
      refine wl_a ?_
      refine wl_nil (nrm_then ?_)
      refine cw_if rfl (fun hc32 => ?_) (fun hc32 => ?_)
      ·skip
       refine cw_seq ?_
       refine cw_region ?_
       refine wl_m ?_
       refine wl_val rfl (ex_eql rfl rfl) ?_
       refine wl_m ?_
       refine wl_split (t := 36) rfl (fun hs36 => ?_) (fun hs36 => ?_)
       ·skip
        refine wl_n ?_
        refine wl_n ?_
        refine wl_n ?_
        refine wl_n ?_
        refine wl_n ?_
        refine wl_pt ?_
        refine wl_a ?_
        refine wl_nil (nrm_then ?_)
        refine cw_ret (ret_block (ret_then (body_ret1 rfl rfl ?_)))
        refine ⟨congrArg Value.bool (Bool.eq_iff_iff.2 ?_), hE14⟩
        simp only [decide_eq_true_eq, Bool.false_eq_true, Bool.true_eq_false, true_iff, false_iff, eq_self, iff_true]; unfold GoesB; omega
       ·skip
        refine wl_g ?_
        refine wl_m ?_
        refine wl_g ?_
        refine wl_m ?_
        refine wl_g ?_
        refine wl_val rfl (ex_sub_i64 rfl rfl (by omega) (by omega)) ?_
        refine wl_g ?_
        refine wl_val rfl (ex_sidx (n := i - 1) rfl rfl Try.underlying9 (by omega) (by omega)) ?_
        refine wl_g ?_
        refine wl_val rfl (ex_eql rfl rfl) ?_
        refine wl_pf ?_
        refine wl_a ?_
        refine wl_nil (nrm_then ?_)
        refine cw_ret (ret_block (ret_then (body_ret1 rfl rfl ?_)))
        refine ⟨congrArg Value.bool (Bool.eq_iff_iff.2 ?_), hE14⟩
        simp only [decide_eq_true_eq, Bool.false_eq_true, Bool.true_eq_false, true_iff, false_iff, eq_self, iff_true]; unfold GoesB; omega
      ·skip
       refine cw_seq ?_
       refine cw_region ?_
       refine wl_val rfl (ex_eql rfl rfl) ?_
       refine wl_a ?_
       refine wl_nil (nrm_then ?_)
       refine cw_if rfl (fun hc43 => ?_) (fun hc43 => ?_)
       ·skip
        refine cw_seq ?_
        refine cw_region ?_
        refine wl_m ?_
        refine wl_m ?_
        refine wl_val rfl (ex_len_str rfl Try.underlying9 rfl) ?_
        refine wl_val rfl (ex_eql rfl rfl) ?_
        refine wl_m ?_
        refine wl_split (t := 49) rfl (fun hs49 => ?_) (fun hs49 => ?_)
        ·skip
         refine wl_n ?_
         refine wl_n ?_
         refine wl_n ?_
         refine wl_n ?_
         refine wl_pt ?_
         refine wl_a ?_
         refine wl_nil (nrm_then ?_)
         refine cw_ret (ret_block (ret_then (body_ret1 rfl rfl ?_)))
         refine ⟨congrArg Value.bool (Bool.eq_iff_iff.2 ?_), hE14⟩
         simp only [decide_eq_true_eq, Bool.false_eq_true, Bool.true_eq_false, true_iff, false_iff, eq_self, iff_true]; unfold GoesB; omega
        ·skip
         refine wl_g ?_
         refine wl_m ?_
         refine wl_g ?_
         refine wl_m ?_
         refine wl_g ?_
         refine wl_val rfl (ex_sidx (n := i) rfl rfl Try.underlying9 rfl (by omega)) ?_
         refine wl_g ?_
         refine wl_val rfl (ex_eql rfl rfl) ?_
         refine wl_pf ?_
         refine wl_a ?_
         refine wl_nil (nrm_then ?_)
         refine cw_ret (ret_block (ret_then (body_ret1 rfl rfl ?_)))
         refine ⟨congrArg Value.bool (Bool.eq_iff_iff.2 ?_), hE14⟩
         simp only [decide_eq_true_eq, Bool.false_eq_true, Bool.true_eq_false, true_iff, false_iff, eq_self, iff_true]; unfold GoesB; omega
       ·skip
        refine cw_seq ?_
        refine cw_region ?_
        refine wl_val rfl (ex_eql rfl rfl) ?_
        refine wl_a ?_
        refine wl_nil (nrm_then ?_)
        refine cw_if rfl (fun hc55 => ?_) (fun hc55 => ?_)
        ·skip
         refine cw_seq ?_
         refine cw_region ?_
         refine wl_m ?_
         refine wl_val rfl (ex_fieldAddr rfl Try.fld44_3) ?_
         refine wl_val rfl (ex_load1 rfl Try.agg3 (cell_nth hB15 rfl)) ?_
         refine wl_val rfl (ex_eql rfl rfl) ?_
         refine wl_val rfl (ex_eqb rfl rfl Try.underlying4) ?_
         refine wl_a ?_
         refine wl_nil (nrm_then ?_)
         refine cw_ret (ret_block (ret_then (body_ret1 rfl rfl ?_)))
         have e9 : c.op = 9 := by omega
         refine ⟨congrArg Value.bool (Bool.eq_iff_iff.2 ?_), hE14⟩
         simp only [decide_eq_true_eq]; unfold GoesB; simp [e9]
        ·skip
         refine cw_skip (nrm_block (nrm_then ?_))
         refine cw_seq ?_
         refine cw_region ?_
         refine wl_a ?_
         refine wl_nil (nrm_then ?_)
         refine cw_ret (body_ret1 rfl rfl ?_)
         refine ⟨congrArg Value.bool (Bool.eq_iff_iff.2 ?_), hE14⟩
         simp only [decide_eq_true_eq, Bool.false_eq_true, Bool.true_eq_false, true_iff, false_iff, eq_self, iff_true]; unfold GoesB; omega
  ·skip
   refine cw_seq ?_
   refine cw_region ?_
   refine wl_val rfl (ex_eql rfl rfl) ?_
   refine wl_a ?_
   refine wl_nil (nrm_then ?_)
   refine cw_if rfl (fun hc18 => ?_) (fun hc18 => ?_)
   ·skip
    refine cw_skip (nrm_then ?_)
    refine cw_if rfl (fun hc18 => ?_) (fun hc18 => ?_)
    ·skip
     refine cw_seq ?_
     refine cw_region ?_
     refine wl_a ?_
     refine wl_nil (nrm_then ?_)
     refine cw_ret (ret_block (ret_then (body_ret1 rfl rfl ?_)))
     refine ⟨congrArg Value.bool (Bool.eq_iff_iff.2 ?_), hE14⟩
     simp only [decide_eq_true_eq, Bool.false_eq_true, Bool.true_eq_false, true_iff, false_iff, eq_self, iff_true]; unfold GoesB; omega
    ·skip
     refine cw_seq ?_
     refine cw_region ?_
     refine wl_val rfl (ex_eql rfl rfl) ?_
     refine wl_a ?_
     refine wl_nil (nrm_then ?_)
     refine cw_if rfl (fun hc22 => ?_) (fun hc22 => ?_)
     ·skip
      refine cw_seq ?_
      refine cw_region ?_
      refine wl_m ?_
      refine wl_val rfl (ex_eql rfl rfl) ?_
      refine wl_a ?_
      refine wl_nil (nrm_then ?_)
      refine cw_ret (ret_block (ret_then (body_ret1 rfl rfl ?_)))
      refine ⟨congrArg Value.bool (Bool.eq_iff_iff.2 ?_), hE14⟩
      simp only [decide_eq_true_eq, Bool.false_eq_true, Bool.true_eq_false, true_iff, false_iff, eq_self, iff_true]; unfold GoesB; omega
     ·skip
      refine cw_seq ?_
      refine cw_region ?_
      refine wl_val rfl (ex_eql rfl rfl) ?_
      refine wl_a ?_
      refine wl_nil (nrm_then ?_)
      refine cw_if rfl (fun hc26 => ?_) (fun hc26 => ?_)
      ·skip
       refine cw_seq ?_
       refine cw_region ?_
       refine wl_m ?_
       refine wl_m ?_
       refine wl_val rfl (ex_len_str rfl Try.underlying9 rfl) ?_
       refine wl_val rfl (ex_eql rfl rfl) ?_
       refine wl_a ?_
       refine wl_nil (nrm_then ?_)
       refine cw_ret (ret_block (ret_then (body_ret1 rfl rfl ?_)))
       refine ⟨congrArg Value.bool (Bool.eq_iff_iff.2 ?_), hE14⟩
       simp only [decide_eq_true_eq, Bool.false_eq_true, Bool.true_eq_false, true_iff, false_iff, eq_self, iff_true]; unfold GoesB; omega
      ·skip
       refine cw_seq ?_
       refine cw_region ?_
       refine wl_val rfl (ex_eql rfl rfl) ?_
       refine wl_a ?_
       refine wl_nil (nrm_then ?_)
       refine cw_if rfl (fun hc32 => ?_) (fun hc32 => ?_)
       ·skip
        refine cw_seq ?_
        refine cw_region ?_
        refine wl_m ?_
        refine wl_val rfl (ex_eql rfl rfl) ?_
        refine wl_m ?_
        refine wl_split (t := 36) rfl (fun hs36 => ?_) (fun hs36 => ?_)
        ·skip
         refine wl_n ?_
         refine wl_n ?_
         refine wl_n ?_
         refine wl_n ?_
         refine wl_n ?_
         refine wl_pt ?_
         refine wl_a ?_
         refine wl_nil (nrm_then ?_)
         refine cw_ret (ret_block (ret_then (body_ret1 rfl rfl ?_)))
         refine ⟨congrArg Value.bool (Bool.eq_iff_iff.2 ?_), hE14⟩
         simp only [decide_eq_true_eq, Bool.false_eq_true, Bool.true_eq_false, true_iff, false_iff, eq_self, iff_true]; unfold GoesB; omega
        ·skip
         refine wl_g ?_
         refine wl_m ?_
         refine wl_g ?_
         refine wl_m ?_
         refine wl_g ?_
         refine wl_val rfl (ex_sub_i64 rfl rfl (by omega) (by omega)) ?_
         refine wl_g ?_
         refine wl_val rfl (ex_sidx (n := i - 1) rfl rfl Try.underlying9 (by omega) (by omega)) ?_
         refine wl_g ?_
         refine wl_val rfl (ex_eql rfl rfl) ?_
         refine wl_pf ?_
         refine wl_a ?_
         refine wl_nil (nrm_then ?_)
         refine cw_ret (ret_block (ret_then (body_ret1 rfl rfl ?_)))
         refine ⟨congrArg Value.bool (Bool.eq_iff_iff.2 ?_), hE14⟩
         simp only [decide_eq_true_eq, Bool.false_eq_true, Bool.true_eq_false, true_iff, false_iff, eq_self, iff_true]; unfold GoesB; omega
       ·skip
        refine cw_seq ?_
        refine cw_region ?_
        refine wl_val rfl (ex_eql rfl rfl) ?_
        refine wl_a ?_
        refine wl_nil (nrm_then ?_)
        refine cw_if rfl (fun hc43 => ?_) (fun hc43 => ?_)
        ·skip
         refine cw_seq ?_
         refine cw_region ?_
         refine wl_m ?_
         refine wl_m ?_
         refine wl_val rfl (ex_len_str rfl Try.underlying9 rfl) ?_
         refine wl_val rfl (ex_eql rfl rfl) ?_
         refine wl_m ?_
         refine wl_split (t := 49) rfl (fun hs49 => ?_) (fun hs49 => ?_)
         ·skip
          refine wl_n ?_
          refine wl_n ?_
          refine wl_n ?_
          refine wl_n ?_
          refine wl_pt ?_
          refine wl_a ?_
          refine wl_nil (nrm_then ?_)
          refine cw_ret (ret_block (ret_then (body_ret1 rfl rfl ?_)))
          refine ⟨congrArg Value.bool (Bool.eq_iff_iff.2 ?_), hE14⟩
          simp only [decide_eq_true_eq, Bool.false_eq_true, Bool.true_eq_false, true_iff, false_iff, eq_self, iff_true]; unfold GoesB; omega
         ·skip
          refine wl_g ?_
          refine wl_m ?_
          refine wl_g ?_
          refine wl_m ?_
          refine wl_g ?_
          refine wl_val rfl (ex_sidx (n := i) rfl rfl Try.underlying9 rfl (by omega)) ?_
          refine wl_g ?_
          refine wl_val rfl (ex_eql rfl rfl) ?_
          refine wl_pf ?_
          refine wl_a ?_
          refine wl_nil (nrm_then ?_)
          refine cw_ret (ret_block (ret_then (body_ret1 rfl rfl ?_)))
          refine ⟨congrArg Value.bool (Bool.eq_iff_iff.2 ?_), hE14⟩
          simp only [decide_eq_true_eq, Bool.false_eq_true, Bool.true_eq_false, true_iff, false_iff, eq_self, iff_true]; unfold GoesB; omega
        ·skip
         refine cw_seq ?_
         refine cw_region ?_
         refine wl_val rfl (ex_eql rfl rfl) ?_
         refine wl_a ?_
         refine wl_nil (nrm_then ?_)
         refine cw_if rfl (fun hc55 => ?_) (fun hc55 => ?_)
         ·skip
          refine cw_seq ?_
          refine cw_region ?_
          refine wl_m ?_
          refine wl_val rfl (ex_fieldAddr rfl Try.fld44_3) ?_
          refine wl_val rfl (ex_load1 rfl Try.agg3 (cell_nth hB15 rfl)) ?_
          refine wl_val rfl (ex_eql rfl rfl) ?_
          refine wl_val rfl (ex_eqb rfl rfl Try.underlying4) ?_
          refine wl_a ?_
          refine wl_nil (nrm_then ?_)
          refine cw_ret (ret_block (ret_then (body_ret1 rfl rfl ?_)))
          have e9 : c.op = 9 := by omega
          refine ⟨congrArg Value.bool (Bool.eq_iff_iff.2 ?_), hE14⟩
          simp only [decide_eq_true_eq]; unfold GoesB; simp [e9]
         ·skip
          refine cw_skip (nrm_block (nrm_then ?_))
          refine cw_seq ?_
          refine cw_region ?_
          refine wl_a ?_
          refine wl_nil (nrm_then ?_)
          refine cw_ret (body_ret1 rfl rfl ?_)
          refine ⟨congrArg Value.bool (Bool.eq_iff_iff.2 ?_), hE14⟩
          simp only [decide_eq_true_eq, Bool.false_eq_true, Bool.true_eq_false, true_iff, false_iff, eq_self, iff_true]; unfold GoesB; omega
   ·skip
    refine cw_region ?_
    refine wl_val rfl (ex_eql rfl rfl) ?_
    refine wl_a ?_
    refine wl_nil (nrm_then ?_)
    refine cw_if rfl (fun hc18 => ?_) (fun hc18 => ?_)
    ·skip
     refine cw_seq ?_
     refine cw_region ?_
     refine wl_a ?_
     refine wl_nil (nrm_then ?_)
     refine cw_ret (ret_block (ret_then (body_ret1 rfl rfl ?_)))
     refine ⟨congrArg Value.bool (Bool.eq_iff_iff.2 ?_), hE14⟩
     simp only [decide_eq_true_eq, Bool.false_eq_true, Bool.true_eq_false, true_iff, false_iff, eq_self, iff_true]; unfold GoesB; omega
    ·skip
     refine cw_seq ?_
     refine cw_region ?_
     refine wl_val rfl (ex_eql rfl rfl) ?_
     refine wl_a ?_
     refine wl_nil (nrm_then ?_)
     refine cw_if rfl (fun hc22 => ?_) (fun hc22 => ?_)
     ·skip
      refine cw_seq ?_
      refine cw_region ?_
      refine wl_m ?_
      refine wl_val rfl (ex_eql rfl rfl) ?_
      refine wl_a ?_
      refine wl_nil (nrm_then ?_)
      refine cw_ret (ret_block (ret_then (body_ret1 rfl rfl ?_)))
      refine ⟨congrArg Value.bool (Bool.eq_iff_iff.2 ?_), hE14⟩
      simp only [decide_eq_true_eq, Bool.false_eq_true, Bool.true_eq_false, true_iff, false_iff, eq_self, iff_true]; unfold GoesB; omega
     ·skip
      refine cw_seq ?_
      refine cw_region ?_
      refine wl_val rfl (ex_eql rfl rfl) ?_
      refine wl_a ?_
      refine wl_nil (nrm_then ?_)
      refine cw_if rfl (fun hc26 => ?_) (fun hc26 => ?_)
      ·skip
       refine cw_seq ?_
       refine cw_region ?_
       refine wl_m ?_
       refine wl_m ?_
       refine wl_val rfl (ex_len_str rfl Try.underlying9 rfl) ?_
       refine wl_val rfl (ex_eql rfl rfl) ?_
       refine wl_a ?_
       refine wl_nil (nrm_then ?_)
       refine cw_ret (ret_block (ret_then (body_ret1 rfl rfl ?_)))
       refine ⟨congrArg Value.bool (Bool.eq_iff_iff.2 ?_), hE14⟩
       simp only [decide_eq_true_eq, Bool.false_eq_true, Bool.true_eq_false, true_iff, false_iff, eq_self, iff_true]; unfold GoesB; omega
      ·skip
       refine cw_seq ?_
       refine cw_region ?_
       refine wl_val rfl (ex_eql rfl rfl) ?_
       refine wl_a ?_
       refine wl_nil (nrm_then ?_)
       refine cw_if rfl (fun hc32 => ?_) (fun hc32 => ?_)
       ·skip
        refine cw_seq ?_
        refine cw_region ?_
        refine wl_m ?_
        refine wl_val rfl (ex_eql rfl rfl) ?_
        refine wl_m ?_
        refine wl_split (t := 36) rfl (fun hs36 => ?_) (fun hs36 => ?_)
        ·skip
         refine wl_n ?_
         refine wl_n ?_
         refine wl_n ?_
         refine wl_n ?_
         refine wl_n ?_
         refine wl_pt ?_
         refine wl_a ?_
         refine wl_nil (nrm_then ?_)
         refine cw_ret (ret_block (ret_then (body_ret1 rfl rfl ?_)))
         refine ⟨congrArg Value.bool (Bool.eq_iff_iff.2 ?_), hE14⟩
         simp only [decide_eq_true_eq, Bool.false_eq_true, Bool.true_eq_false, true_iff, false_iff, eq_self, iff_true]; unfold GoesB; omega
        ·skip
         refine wl_g ?_
         refine wl_m ?_
         refine wl_g ?_
         refine wl_m ?_
         refine wl_g ?_
         refine wl_val rfl (ex_sub_i64 rfl rfl (by omega) (by omega)) ?_
         refine wl_g ?_
         refine wl_val rfl (ex_sidx (n := i - 1) rfl rfl Try.underlying9 (by omega) (by omega)) ?_
         refine wl_g ?_
         refine wl_val rfl (ex_eql rfl rfl) ?_
         refine wl_pf ?_
         refine wl_a ?_
         refine wl_nil (nrm_then ?_)
         refine cw_ret (ret_block (ret_then (body_ret1 rfl rfl ?_)))
         refine ⟨congrArg Value.bool (Bool.eq_iff_iff.2 ?_), hE14⟩
         simp only [decide_eq_true_eq, Bool.false_eq_true, Bool.true_eq_false, true_iff, false_iff, eq_self, iff_true]; unfold GoesB; omega
       ·skip
        refine cw_seq ?_
        refine cw_region ?_
        refine wl_val rfl (ex_eql rfl rfl) ?_
        refine wl_a ?_
        refine wl_nil (nrm_then ?_)
        refine cw_if rfl (fun hc43 => ?_) (fun hc43 => ?_)
        ·skip
         refine cw_seq ?_
         refine cw_region ?_
         refine wl_m ?_
         refine wl_m ?_
         refine wl_val rfl (ex_len_str rfl Try.underlying9 rfl) ?_
         refine wl_val rfl (ex_eql rfl rfl) ?_
         refine wl_m ?_
         refine wl_split (t := 49) rfl (fun hs49 => ?_) (fun hs49 => ?_)
         ·skip
          refine wl_n ?_
          refine wl_n ?_
          refine wl_n ?_
          refine wl_n ?_
          refine wl_pt ?_
          refine wl_a ?_
          refine wl_nil (nrm_then ?_)
          refine cw_ret (ret_block (ret_then (body_ret1 rfl rfl ?_)))
          refine ⟨congrArg Value.bool (Bool.eq_iff_iff.2 ?_), hE14⟩
          simp only [decide_eq_true_eq, Bool.false_eq_true, Bool.true_eq_false, true_iff, false_iff, eq_self, iff_true]; unfold GoesB; omega
         ·skip
          refine wl_g ?_
          refine wl_m ?_
          refine wl_g ?_
          refine wl_m ?_
          refine wl_g ?_
          refine wl_val rfl (ex_sidx (n := i) rfl rfl Try.underlying9 rfl (by omega)) ?_
          refine wl_g ?_
          refine wl_val rfl (ex_eql rfl rfl) ?_
          refine wl_pf ?_
          refine wl_a ?_
          refine wl_nil (nrm_then ?_)
          refine cw_ret (ret_block (ret_then (body_ret1 rfl rfl ?_)))
          refine ⟨congrArg Value.bool (Bool.eq_iff_iff.2 ?_), hE14⟩
          simp only [decide_eq_true_eq, Bool.false_eq_true, Bool.true_eq_false, true_iff, false_iff, eq_self, iff_true]; unfold GoesB; omega
        ·skip
         refine cw_seq ?_
         refine cw_region ?_
         refine wl_val rfl (ex_eql rfl rfl) ?_
         refine wl_a ?_
         refine wl_nil (nrm_then ?_)
         refine cw_if rfl (fun hc55 => ?_) (fun hc55 => ?_)
         ·skip
          refine cw_seq ?_
          refine cw_region ?_
          refine wl_m ?_
          refine wl_val rfl (ex_fieldAddr rfl Try.fld44_3) ?_
          refine wl_val rfl (ex_load1 rfl Try.agg3 (cell_nth hB15 rfl)) ?_
          refine wl_val rfl (ex_eql rfl rfl) ?_
          refine wl_val rfl (ex_eqb rfl rfl Try.underlying4) ?_
          refine wl_a ?_
          refine wl_nil (nrm_then ?_)
          refine cw_ret (ret_block (ret_then (body_ret1 rfl rfl ?_)))
          have e9 : c.op = 9 := by omega
          refine ⟨congrArg Value.bool (Bool.eq_iff_iff.2 ?_), hE14⟩
          simp only [decide_eq_true_eq]; unfold GoesB; simp [e9]
         ·skip
          refine cw_skip (nrm_block (nrm_then ?_))
          refine cw_seq ?_
          refine cw_region ?_
          refine wl_a ?_
          refine wl_nil (nrm_then ?_)
          refine cw_ret (body_ret1 rfl rfl ?_)
          refine ⟨congrArg Value.bool (Bool.eq_iff_iff.2 ?_), hE14⟩
          simp only [decide_eq_true_eq, Bool.false_eq_true, Bool.true_eq_false, true_iff, false_iff, eq_self, iff_true]; unfold GoesB; omega

theorem runeAt_ok {w : World} (s : ByteArray) (i : Nat) (hi : i ≤ s.size) (hs : s.size ≤ 1000000000) : Calls Try.prog 19 #[.string s, .int .i64 (i : Nat)] w (Ret fun v w' => v = .tuple #[.int .i32 (runeAtR s i).1, .int .i64 (runeAtR s i).2] ∧ Evo [] w w') := by
  have hz : (s.extract i s.size).size = s.size - i := by have := s.size_extract (b := i) (e := s.size); omega
  have hdf := decode_from s i hi
  refine calls_of_cw (N := 49) Try.func19 rfl rfl rfl ?_
  refine cw_seq ?_
  refine cw_region ?_
  refine wl_a ?_
  refine wl_a ?_
  refine wl_nil (nrm_then ?_)
  refine cw_seq ?_
  refine cw_seq ?_
  refine cw_region ?_
  refine wl_m ?_
  refine wl_m ?_
  refine wl_val rfl (ex_len_str rfl Try.underlying9 rfl) ?_
  refine wl_val rfl (ex_geq rfl rfl) ?_
  refine wl_nil (nrm_then ?_)
  refine cw_if rfl (fun hc12 => ?_) (fun hc12 => ?_)
  ·skip
   refine cw_seq ?_
   refine cw_region ?_
   refine wl_a ?_
   refine wl_a ?_
   refine wl_nil (nrm_then ?_)
   refine cw_ret (ret_then (body_ret2 rfl rfl rfl ?_))
   rw [runeAtR, if_pos (by omega)]; exact ⟨rfl, (Evo.refl [] w)⟩
  ·skip
   refine cw_skip (nrm_then ?_)
   refine cw_seq ?_
   refine cw_seq ?_
   refine cw_region ?_
   refine wl_m ?_
   refine wl_m ?_
   refine wl_val rfl (ex_ssubFrom rfl rfl Try.underlying9 rfl hi) ?_
   refine wl_rangeS rfl rfl Try.underlying9 fun it w1 hB2 hs3 hw4 => ?_
   have hG5 := Ge.new (Evo.refl [] w) hs3
   have hE6 := (Evo.refl [] w).then hw4
   refine wl_nil (nrm_then ?_)
   refine cw_block ?_
   refine cw_loop (α := Unit) (()) (fun u => []) [(0, _), (1, _), (16, _)] (fun u wr => Evo [] w1 wr ∧ (wr.heap[it]? = some (.stringIter (s.extract i s.size) 0))) (fun u => 0) trivial ⟨rfl, rfl, rfl, trivial⟩ ⟨Evo.refl _ _, hB2⟩ ?_
   rintro u wr7 ⟨hV8, hit⟩
   show CW _ _ _ _ [(0, _), (1, _), (16, _)] _
   have hE9 := hE6.then hV8
   refine cw_seq ?_
   refine cw_region ?_
   by_cases hn10 : 0 < (s.extract i s.size).size
   ·skip
    refine wl_nextS rfl rfl hit hn10 fun w11 hB12 hw13 => ?_
    have hE14 := hE9.step hw13 hG5.mem1
    refine wl_val rfl (ex_extract rfl rfl) ?_
    refine wl_nil (nrm_then ?_)
    refine cw_seq ?_
    refine cw_true rfl ?_
    refine cw_skip (nrm_then ?_)
    refine cw_block ?_
    refine cw_seq ?_
    refine cw_region ?_
    refine wl_val rfl (ex_extract rfl rfl) ?_
    refine wl_val rfl (ex_extract rfl rfl) ?_
    refine wl_a ?_
    refine wl_a ?_
    refine wl_nil (nrm_then ?_)
    refine cw_seq ?_
    refine cw_region ?_
    refine wl_m ?_
    refine wl_val rfl (ex_eql rfl rfl) ?_
    refine wl_nil (nrm_then ?_)
    refine cw_if rfl (fun hc22 => ?_) (fun hc22 => ?_)
    ·skip
     refine cw_seq ?_
     refine cw_region ?_
     refine wl_m ?_
     refine wl_val rfl (ex_runeStr rfl Try.underlying21 Try.underlying9) ?_
     refine wl_val rfl (ex_len_str rfl Try.underlying9 rfl) ?_
     refine wl_a ?_
     refine wl_nil (nrm_then ?_)
     refine cw_seq ?_
     refine cw_seq ?_
     refine cw_region ?_
     refine wl_m ?_
     refine wl_val rfl (ex_eql rfl rfl) ?_
     refine wl_m ?_
     refine wl_split (t := 28) rfl (fun hs28 => ?_) (fun hs28 => ?_)
     ·skip
      have hc65 : (Utf8.decode s i).1 = 65533 := by rw [hdf] at hs28; omega
      have hsz3 : (Utf8.encode (((Utf8.decode (s.extract i s.size) 0).1 : Nat) : Int)).size = 3 := by rw [hdf, hc65]; exact enc_fffd_size
      refine wl_g ?_
      refine wl_m ?_
      refine wl_g ?_
      refine wl_m ?_
      refine wl_g ?_
      refine wl_val rfl (ex_len_str rfl Try.underlying9 rfl) ?_
      refine wl_g ?_
      refine wl_m ?_
      refine wl_g ?_
      refine wl_val rfl (ex_sub_i64 rfl rfl (by omega) (by omega)) ?_
      refine wl_g ?_
      refine wl_val rfl (ex_gtr rfl rfl) ?_
      refine wl_g ?_
      refine wl_m ?_
      refine wl_split (t := 35) rfl (fun hs35 => ?_) (fun hs35 => ?_)
      ·skip
       refine wl_n ?_
       refine wl_n ?_
       refine wl_n ?_
       refine wl_n ?_
       refine wl_n ?_
       refine wl_n ?_
       refine wl_n ?_
       refine wl_n ?_
       refine wl_n ?_
       refine wl_g ?_
       refine wl_pt ?_
       refine wl_pt ?_
       refine wl_nil (nrm_then ?_)
       refine cw_true rfl ?_
       refine cw_seq ?_
       refine cw_region ?_
       refine wl_a ?_
       refine wl_a ?_
       refine wl_nil (nrm_then ?_)
       refine cw_ret (ret_then (ret_block (ret_then (ret_block (ret_then (body_ret2 rfl rfl rfl ?_))))))
       have hi' : i < s.size := by omega
       rw [runeAt_c hi' hc65 (fun h => by omega)]; exact ⟨rfl, hE14⟩
      ·skip
       refine wl_g ?_
       refine wl_m ?_
       refine wl_g ?_
       refine wl_m ?_
       refine wl_g ?_
       refine wl_m ?_
       refine wl_g ?_
       refine wl_m ?_
       refine wl_g ?_
       refine wl_val rfl (ex_add_i64 rfl rfl (by omega) (by omega)) ?_
       refine wl_g ?_
       refine wl_val rfl (ex_ssub (l := i) (h := i + 3) rfl rfl rfl Try.underlying9 rfl (by omega) (by omega) (by omega)) ?_
       refine wl_g ?_
       refine wl_m ?_
       refine wl_g ?_
       refine wl_val rfl (ex_runeStr rfl Try.underlying21 Try.underlying9) ?_
       refine wl_g ?_
       refine wl_val rfl (ex_neqs rfl rfl) ?_
       refine wl_g ?_
       refine wl_pf ?_
       refine wl_pt ?_
       refine wl_nil (nrm_then ?_)
       refine cw_if rfl (fun hc46 => ?_) (fun hc46 => ?_)
       ·skip
        refine cw_seq ?_
        refine cw_region ?_
        refine wl_a ?_
        refine wl_a ?_
        refine wl_nil (nrm_then ?_)
        refine cw_ret (ret_then (ret_block (ret_then (ret_block (ret_then (body_ret2 rfl rfl rfl ?_))))))
        have hi' : i < s.size := by omega
        rw [hdf, hc65] at hc46
        rw [show (((65533 : Nat) : Int)) = 65533 from rfl] at hc46
        rw [runeAt_c hi' hc65 (fun h => hc46 h.2)]; exact ⟨rfl, hE14⟩
       ·skip
        refine cw_skip (nrm_then ?_)
        refine cw_seq ?_
        refine cw_region ?_
        refine wl_m ?_
        refine wl_m ?_
        refine wl_a ?_
        refine wl_a ?_
        refine wl_nil (nrm_then ?_)
        refine cw_ret (ret_block (ret_then (ret_block (ret_then (body_ret2 rfl rfl rfl ?_)))))
        have hi' : i < s.size := by omega
        have h46 := Classical.not_not.1 hc46
        rw [hdf, hc65] at h46
        rw [runeAt_b hi' hc65 (by omega) h46, hsz3, hdf, hc65]; exact ⟨rfl, hE14⟩
     ·skip
      refine wl_n ?_
      refine wl_n ?_
      refine wl_n ?_
      refine wl_n ?_
      refine wl_n ?_
      refine wl_n ?_
      refine wl_n ?_
      refine wl_u ?_
      refine wl_u ?_
      refine wl_u ?_
      refine wl_u ?_
      refine wl_u ?_
      refine wl_u ?_
      refine wl_u ?_
      refine wl_u ?_
      refine wl_u ?_
      refine wl_n ?_
      refine wl_pf ?_
      refine wl_nil (nrm_then ?_)
      refine cw_false rfl ?_
      refine cw_skip (nrm_then ?_)
      refine cw_seq ?_
      refine cw_region ?_
      refine wl_m ?_
      refine wl_m ?_
      refine wl_a ?_
      refine wl_a ?_
      refine wl_nil (nrm_then ?_)
      refine cw_ret (ret_block (ret_then (ret_block (ret_then (body_ret2 rfl rfl rfl ?_)))))
      have hi' : i < s.size := by omega
      rw [runeAt_a hi' (fun h => hs28 (by rw [hdf, h]; rfl)), ← hdf]; exact ⟨rfl, hE14⟩
    ·skip
     exact absurd rfl hc22
   ·skip
    refine wl_nextE rfl rfl hit hn10 ?_
    refine wl_val rfl (ex_extract rfl rfl) ?_
    refine wl_nil (nrm_then ?_)
    refine cw_seq ?_
    refine cw_false rfl ?_
    refine cw_exit (ex_then (ex_then (ex_here (nrm_then ?_))))
    refine cw_seq ?_
    refine cw_region ?_
    refine wl_a ?_
    refine wl_a ?_
    refine wl_nil (nrm_then ?_)
    refine cw_ret (body_ret2 rfl rfl rfl ?_)
    exfalso; omega

end Go.Proofs.Ytgboffefbpligaa
