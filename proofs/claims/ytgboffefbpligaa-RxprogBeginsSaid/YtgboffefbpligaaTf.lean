/- The reference's Valid: brackets, bare, ranges, wordRune, name. -/
import Derived.Test.YtgboffefbpligaaTe
namespace Go.Proofs.Ytgboffefbpligaa
open Go.Proofs
open Go.W Go.RowKit
attribute [local irreducible] Decidable.decide
set_option linter.unusedSimpArgs false
set_option linter.unusedVariables false
theorem Try.fld56_2 : fieldB Try.prog 56 2 = some 2 := by kernel_rfl
theorem Try.goes59 : Goes Try.prog 59 := ⟨_, Try.func59, by kernel_rfl, by kernel_rfl⟩

theorem brackets_ok {w : World} (k a : Int) : Calls Try.prog 37 #[.int .i64 k, .int .i64 a] w (Ret fun v w' => v = .bool (decide (Brk a k)) ∧ Evo [] w w') := by
  refine calls_of_cw (N := 38) Try.func37 rfl rfl rfl ?_
  refine cw_seq ?_
  refine cw_region ?_
  refine wl_a ?_
  refine wl_nil (nrm_then ?_)
  refine cw_seq ?_
  refine cw_seq ?_
  refine cw_region ?_
  refine wl_m ?_
  refine wl_nil (nrm_then ?_)
  refine cw_block ?_
  refine cw_seq ?_
  refine cw_region ?_
  refine wl_val rfl (ex_eql rfl rfl) ?_
  refine wl_a ?_
  refine wl_nil (nrm_then ?_)
  refine cw_if rfl (fun hc6 => ?_) (fun hc6 => ?_)
  ·skip
   refine cw_seq ?_
   refine cw_region ?_
   refine wl_m ?_
   refine wl_val rfl (ex_eql rfl rfl) ?_
   refine wl_a ?_
   refine wl_nil (nrm_then ?_)
   refine cw_ret (ret_block (ret_then (body_ret1 rfl rfl ?_)))
   refine ⟨congrArg Value.bool (Bool.eq_iff_iff.2 ?_), (Evo.refl [] w)⟩
   simp only [decide_eq_true_eq, Bool.false_eq_true, Bool.true_eq_false, true_iff, false_iff, eq_self, iff_true]; unfold Brk; omega
  ·skip
   refine cw_seq ?_
   refine cw_region ?_
   refine wl_val rfl (ex_eql rfl rfl) ?_
   refine wl_a ?_
   refine wl_nil (nrm_then ?_)
   refine cw_if rfl (fun hc10 => ?_) (fun hc10 => ?_)
   ·skip
    refine cw_seq ?_
    refine cw_region ?_
    refine wl_m ?_
    refine wl_val rfl (ex_eql rfl rfl) ?_
    refine wl_m ?_
    refine wl_split (t := 14) rfl (fun hs14 => ?_) (fun hs14 => ?_)
    ·skip
     refine wl_n ?_
     refine wl_n ?_
     refine wl_pt ?_
     refine wl_m ?_
     refine wl_n ?_
     refine wl_n ?_
     refine wl_pt ?_
     refine wl_a ?_
     refine wl_nil (nrm_then ?_)
     refine cw_ret (ret_block (ret_then (body_ret1 rfl rfl ?_)))
     refine ⟨congrArg Value.bool (Bool.eq_iff_iff.2 ?_), (Evo.refl [] w)⟩
     simp only [decide_eq_true_eq, Bool.false_eq_true, Bool.true_eq_false, true_iff, false_iff, eq_self, iff_true]; unfold Brk; omega
    ·skip
     refine wl_g ?_
     refine wl_m ?_
     refine wl_g ?_
     refine wl_val rfl (ex_eql rfl rfl) ?_
     refine wl_pf ?_
     refine wl_m ?_
     refine wl_split (t := 18) rfl (fun hs18 => ?_) (fun hs18 => ?_)
     ·skip
      refine wl_n ?_
      refine wl_n ?_
      refine wl_pt ?_
      refine wl_a ?_
      refine wl_nil (nrm_then ?_)
      refine cw_ret (ret_block (ret_then (body_ret1 rfl rfl ?_)))
      refine ⟨congrArg Value.bool (Bool.eq_iff_iff.2 ?_), (Evo.refl [] w)⟩
      simp only [decide_eq_true_eq, Bool.false_eq_true, Bool.true_eq_false, true_iff, false_iff, eq_self, iff_true]; unfold Brk; omega
     ·skip
      refine wl_g ?_
      refine wl_m ?_
      refine wl_g ?_
      refine wl_val rfl (ex_eql rfl rfl) ?_
      refine wl_pf ?_
      refine wl_a ?_
      refine wl_nil (nrm_then ?_)
      refine cw_ret (ret_block (ret_then (body_ret1 rfl rfl ?_)))
      refine ⟨congrArg Value.bool (Bool.eq_iff_iff.2 ?_), (Evo.refl [] w)⟩
      simp only [decide_eq_true_eq, Bool.false_eq_true, Bool.true_eq_false, true_iff, false_iff, eq_self, iff_true]; unfold Brk; omega
   ·skip
    refine cw_seq ?_
    refine cw_region ?_
    refine wl_val rfl (ex_eql rfl rfl) ?_
    refine wl_a ?_
    refine wl_nil (nrm_then ?_)
    refine cw_if rfl (fun hc22 => ?_) (fun hc22 => ?_)
    ·skip
     refine cw_seq ?_
     refine cw_region ?_
     refine wl_m ?_
     refine wl_val rfl (ex_eql rfl rfl) ?_
     refine wl_m ?_
     refine wl_split (t := 26) rfl (fun hs26 => ?_) (fun hs26 => ?_)
     ·skip
      refine wl_n ?_
      refine wl_n ?_
      refine wl_pt ?_
      refine wl_m ?_
      refine wl_n ?_
      refine wl_n ?_
      refine wl_pt ?_
      refine wl_m ?_
      refine wl_n ?_
      refine wl_n ?_
      refine wl_pt ?_
      refine wl_a ?_
      refine wl_nil (nrm_then ?_)
      refine cw_ret (ret_block (ret_then (body_ret1 rfl rfl ?_)))
      refine ⟨congrArg Value.bool (Bool.eq_iff_iff.2 ?_), (Evo.refl [] w)⟩
      simp only [decide_eq_true_eq, Bool.false_eq_true, Bool.true_eq_false, true_iff, false_iff, eq_self, iff_true]; unfold Brk; omega
     ·skip
      refine wl_g ?_
      refine wl_m ?_
      refine wl_g ?_
      refine wl_val rfl (ex_eql rfl rfl) ?_
      refine wl_pf ?_
      refine wl_m ?_
      refine wl_split (t := 30) rfl (fun hs30 => ?_) (fun hs30 => ?_)
      ·skip
       refine wl_n ?_
       refine wl_n ?_
       refine wl_pt ?_
       refine wl_m ?_
       refine wl_n ?_
       refine wl_n ?_
       refine wl_pt ?_
       refine wl_a ?_
       refine wl_nil (nrm_then ?_)
       refine cw_ret (ret_block (ret_then (body_ret1 rfl rfl ?_)))
       refine ⟨congrArg Value.bool (Bool.eq_iff_iff.2 ?_), (Evo.refl [] w)⟩
       simp only [decide_eq_true_eq, Bool.false_eq_true, Bool.true_eq_false, true_iff, false_iff, eq_self, iff_true]; unfold Brk; omega
      ·skip
       refine wl_g ?_
       refine wl_m ?_
       refine wl_g ?_
       refine wl_val rfl (ex_eql rfl rfl) ?_
       refine wl_pf ?_
       refine wl_m ?_
       refine wl_split (t := 34) rfl (fun hs34 => ?_) (fun hs34 => ?_)
       ·skip
        refine wl_n ?_
        refine wl_n ?_
        refine wl_pt ?_
        refine wl_a ?_
        refine wl_nil (nrm_then ?_)
        refine cw_ret (ret_block (ret_then (body_ret1 rfl rfl ?_)))
        refine ⟨congrArg Value.bool (Bool.eq_iff_iff.2 ?_), (Evo.refl [] w)⟩
        simp only [decide_eq_true_eq, Bool.false_eq_true, Bool.true_eq_false, true_iff, false_iff, eq_self, iff_true]; unfold Brk; omega
       ·skip
        refine wl_g ?_
        refine wl_m ?_
        refine wl_g ?_
        refine wl_val rfl (ex_eql rfl rfl) ?_
        refine wl_pf ?_
        refine wl_a ?_
        refine wl_nil (nrm_then ?_)
        refine cw_ret (ret_block (ret_then (body_ret1 rfl rfl ?_)))
        refine ⟨congrArg Value.bool (Bool.eq_iff_iff.2 ?_), (Evo.refl [] w)⟩
        simp only [decide_eq_true_eq, Bool.false_eq_true, Bool.true_eq_false, true_iff, false_iff, eq_self, iff_true]; unfold Brk; omega
    ·skip
     refine cw_skip (nrm_block (nrm_then ?_))
     refine cw_seq ?_
     refine cw_region ?_
     refine wl_a ?_
     refine wl_nil (nrm_then ?_)
     refine cw_ret (body_ret1 rfl rfl ?_)
     refine ⟨congrArg Value.bool (Bool.eq_iff_iff.2 ?_), (Evo.refl [] w)⟩
     simp only [decide_eq_true_eq, Bool.false_eq_true, Bool.true_eq_false, true_iff, false_iff, eq_self, iff_true]; unfold Brk; omega


structure BareP (x : Rx) : Prop where
  zg : x.kind = 3 ∨ (x.ranges.length : Int) = 0
  zk : x.kind = 4 ∨ x.kind = 5 ∨ x.kind = 6 ∨ x.kind = 7 ∨ (x.kids.length : Int) = 0
  zr : x.kind = 2 ∨ x.r = 0
  zm1 : x.kind = 6 ∨ x.min = 0
  zm2 : x.kind = 6 ∨ x.max = 0
  zl : x.kind = 6 ∨ x.lazy = false
  zc : x.kind = 7 ∨ x.cap = 0
  zn : x.kind = 7 ∨ x.name = ByteArray.mk #[]
theorem bareP_iff (x : Rx) : BareP x ↔ (x.kind = 3 ∨ (x.ranges.length : Int) = 0) ∧ (x.kind = 4 ∨ x.kind = 5 ∨ x.kind = 6 ∨ x.kind = 7 ∨ (x.kids.length : Int) = 0) ∧ (x.kind = 2 ∨ x.r = 0) ∧ (x.kind = 6 ∨ x.min = 0) ∧ (x.kind = 6 ∨ x.max = 0) ∧ (x.kind = 6 ∨ x.lazy = false) ∧ (x.kind = 7 ∨ x.cap = 0) ∧ (x.kind = 7 ∨ x.name = ByteArray.mk #[]) :=
  ⟨fun h => ⟨h.zg, h.zk, h.zr, h.zm1, h.zm2, h.zl, h.zc, h.zn⟩, fun ⟨a, b, c, d, e, f, g, h⟩ => ⟨a, b, c, d, e, f, g, h⟩⟩

theorem bare_ok {n : Nat} {X : List Nat} {w : World} {vs : List Value} {t : Rx} (hx : RRx n X w vs t) : Calls Try.prog 38 #[.agg vs.toArray] w (Ret fun v w' => ∃ b, v = .bool b ∧ (b = true ↔ BareP t) ∧ Evo [] w w') := by
  obtain ⟨m, ra, rc, ka, kc, hm, rfl, hrg, hk, bl1, bl2, bl3⟩ := hx.get
  refine calls_of_cw (N := 82) Try.func38 rfl rfl rfl ?_
  refine cw_seq ?_
  refine cw_region ?_
  refine wl_boxA rfl rfl fun b1 w2 hB3 hs4 hw5 => ?_
  have hG6 := Ge.new (Evo.refl [] w) hs4
  have hE7 := (Evo.refl [] w).then hw5
  refine wl_a ?_
  refine wl_nil (nrm_then ?_)
  refine cw_seq ?_
  refine cw_region ?_
  refine wl_val rfl (ex_fieldAddr rfl Try.fld25_0) ?_
  refine wl_val rfl (ex_load1 rfl Try.agg3 (cell_nth hB3 rfl)) ?_
  refine wl_a ?_
  refine wl_nil (nrm_then ?_)
  refine cw_seq ?_
  refine cw_cut (α := Bool) (fun z => [(4, .bool z)]) [(1, _), (2, _), (3, _)] (fun z wr => Evo [] w2 wr ∧ (z = true ↔ (t.kind = 3 ∨ (t.ranges.length : Int) = 0) ∧ (t.kind = 4 ∨ t.kind = 5 ∨ t.kind = 6 ∨ t.kind = 7 ∨ (t.kids.length : Int) = 0))) ⟨rfl, rfl, rfl, trivial⟩ ?_ ?_
  ·skip
   refine cw_region ?_
   refine wl_m ?_
   refine wl_val rfl (ex_eql rfl rfl) ?_
   refine wl_m ?_
   refine wl_split (t := 10) rfl (fun hs10 => ?_) (fun hs10 => ?_)
   ·skip
    refine wl_n ?_
    refine wl_n ?_
    refine wl_n ?_
    refine wl_n ?_
    refine wl_pt ?_
    refine wl_m ?_
    refine wl_g ?_
    refine wl_m ?_
    refine wl_g ?_
    refine wl_val rfl (ex_eql rfl rfl) ?_
    refine wl_g ?_
    refine wl_m ?_
    refine wl_split (t := 19) rfl (fun hs19 => ?_) (fun hs19 => ?_)
    ·skip
     refine wl_n ?_
     refine wl_n ?_
     refine wl_g ?_
     refine wl_pt ?_
     refine wl_g ?_
     refine wl_m ?_
     refine wl_n ?_
     refine wl_n ?_
     refine wl_g ?_
     refine wl_pt ?_
     refine wl_g ?_
     refine wl_m ?_
     refine wl_n ?_
     refine wl_n ?_
     refine wl_g ?_
     refine wl_pt ?_
     refine wl_g ?_
     refine wl_m ?_
     refine wl_n ?_
     refine wl_n ?_
     refine wl_n ?_
     refine wl_n ?_
     refine wl_g ?_
     refine wl_pt ?_
     refine wl_pt ?_
     refine wl_a ?_
     refine wl_nil (nrm_same ?_)
     refine ⟨true, ⟨rfl, trivial⟩, ⟨rfl, rfl, rfl, trivial⟩, (Evo.refl [] w2), ?_⟩
     simp only [decide_eq_true_eq, Bool.false_eq_true, true_iff, false_iff, Bool.not_eq_true'] at *
     grind
    ·skip
     refine wl_g ?_
     refine wl_m ?_
     refine wl_g ?_
     refine wl_val rfl (ex_eql rfl rfl) ?_
     refine wl_g ?_
     refine wl_pf ?_
     refine wl_g ?_
     refine wl_m ?_
     refine wl_split (t := 23) rfl (fun hs23 => ?_) (fun hs23 => ?_)
     ·skip
      refine wl_n ?_
      refine wl_n ?_
      refine wl_g ?_
      refine wl_pt ?_
      refine wl_g ?_
      refine wl_m ?_
      refine wl_n ?_
      refine wl_n ?_
      refine wl_g ?_
      refine wl_pt ?_
      refine wl_g ?_
      refine wl_m ?_
      refine wl_n ?_
      refine wl_n ?_
      refine wl_n ?_
      refine wl_n ?_
      refine wl_g ?_
      refine wl_pt ?_
      refine wl_pt ?_
      refine wl_a ?_
      refine wl_nil (nrm_same ?_)
      refine ⟨true, ⟨rfl, trivial⟩, ⟨rfl, rfl, rfl, trivial⟩, (Evo.refl [] w2), ?_⟩
      simp only [decide_eq_true_eq, Bool.false_eq_true, true_iff, false_iff, Bool.not_eq_true'] at *
      grind
     ·skip
      refine wl_g ?_
      refine wl_m ?_
      refine wl_g ?_
      refine wl_val rfl (ex_eql rfl rfl) ?_
      refine wl_g ?_
      refine wl_pf ?_
      refine wl_g ?_
      refine wl_m ?_
      refine wl_split (t := 27) rfl (fun hs27 => ?_) (fun hs27 => ?_)
      ·skip
       refine wl_n ?_
       refine wl_n ?_
       refine wl_g ?_
       refine wl_pt ?_
       refine wl_g ?_
       refine wl_m ?_
       refine wl_n ?_
       refine wl_n ?_
       refine wl_n ?_
       refine wl_n ?_
       refine wl_g ?_
       refine wl_pt ?_
       refine wl_pt ?_
       refine wl_a ?_
       refine wl_nil (nrm_same ?_)
       refine ⟨true, ⟨rfl, trivial⟩, ⟨rfl, rfl, rfl, trivial⟩, (Evo.refl [] w2), ?_⟩
       simp only [decide_eq_true_eq, Bool.false_eq_true, true_iff, false_iff, Bool.not_eq_true'] at *
       grind
      ·skip
       refine wl_g ?_
       refine wl_m ?_
       refine wl_g ?_
       refine wl_val rfl (ex_eql rfl rfl) ?_
       refine wl_g ?_
       refine wl_pf ?_
       refine wl_g ?_
       refine wl_m ?_
       refine wl_split (t := 31) rfl (fun hs31 => ?_) (fun hs31 => ?_)
       ·skip
        refine wl_n ?_
        refine wl_n ?_
        refine wl_n ?_
        refine wl_n ?_
        refine wl_g ?_
        refine wl_pt ?_
        refine wl_pt ?_
        refine wl_a ?_
        refine wl_nil (nrm_same ?_)
        refine ⟨true, ⟨rfl, trivial⟩, ⟨rfl, rfl, rfl, trivial⟩, (Evo.refl [] w2), ?_⟩
        simp only [decide_eq_true_eq, Bool.false_eq_true, true_iff, false_iff, Bool.not_eq_true'] at *
        grind
       ·skip
        refine wl_g ?_
        refine wl_val rfl (ex_fieldAddr rfl Try.fld25_8) ?_
        refine wl_g ?_
        refine wl_val rfl (ex_load1 rfl Try.agg23 (cell_nth hB3 rfl)) ?_
        refine wl_g ?_
        refine wl_val rfl (ex_len_slice rfl Try.underlying23 rfl) ?_
        refine wl_g ?_
        refine wl_val rfl (ex_eql rfl rfl) ?_
        refine wl_g ?_
        refine wl_pf ?_
        refine wl_pt ?_
        refine wl_a ?_
        refine wl_nil (nrm_same ?_)
        refine ⟨(decide ((t.kids.length : Int) = 0)), ⟨rfl, trivial⟩, ⟨rfl, rfl, rfl, trivial⟩, (Evo.refl [] w2), ?_⟩
        simp only [decide_eq_true_eq, Bool.false_eq_true, true_iff, false_iff, Bool.not_eq_true'] at *
        grind
   ·skip
    refine wl_g ?_
    refine wl_val rfl (ex_fieldAddr rfl Try.fld25_2) ?_
    refine wl_g ?_
    refine wl_val rfl (ex_load1 rfl Try.agg22 (cell_nth hB3 rfl)) ?_
    refine wl_g ?_
    refine wl_val rfl (ex_len_slice rfl Try.underlying22 rfl) ?_
    refine wl_g ?_
    refine wl_val rfl (ex_eql rfl rfl) ?_
    refine wl_pf ?_
    refine wl_m ?_
    refine wl_split (t := 16) rfl (fun hs16 => ?_) (fun hs16 => ?_)
    ·skip
     refine wl_g ?_
     refine wl_m ?_
     refine wl_g ?_
     refine wl_val rfl (ex_eql rfl rfl) ?_
     refine wl_g ?_
     refine wl_m ?_
     refine wl_split (t := 19) rfl (fun hs19 => ?_) (fun hs19 => ?_)
     ·skip
      refine wl_n ?_
      refine wl_n ?_
      refine wl_g ?_
      refine wl_pt ?_
      refine wl_g ?_
      refine wl_m ?_
      refine wl_n ?_
      refine wl_n ?_
      refine wl_g ?_
      refine wl_pt ?_
      refine wl_g ?_
      refine wl_m ?_
      refine wl_n ?_
      refine wl_n ?_
      refine wl_g ?_
      refine wl_pt ?_
      refine wl_g ?_
      refine wl_m ?_
      refine wl_n ?_
      refine wl_n ?_
      refine wl_n ?_
      refine wl_n ?_
      refine wl_g ?_
      refine wl_pt ?_
      refine wl_pt ?_
      refine wl_a ?_
      refine wl_nil (nrm_same ?_)
      refine ⟨true, ⟨rfl, trivial⟩, ⟨rfl, rfl, rfl, trivial⟩, (Evo.refl [] w2), ?_⟩
      simp only [decide_eq_true_eq, Bool.false_eq_true, true_iff, false_iff, Bool.not_eq_true'] at *
      grind
     ·skip
      refine wl_g ?_
      refine wl_m ?_
      refine wl_g ?_
      refine wl_val rfl (ex_eql rfl rfl) ?_
      refine wl_g ?_
      refine wl_pf ?_
      refine wl_g ?_
      refine wl_m ?_
      refine wl_split (t := 23) rfl (fun hs23 => ?_) (fun hs23 => ?_)
      ·skip
       refine wl_n ?_
       refine wl_n ?_
       refine wl_g ?_
       refine wl_pt ?_
       refine wl_g ?_
       refine wl_m ?_
       refine wl_n ?_
       refine wl_n ?_
       refine wl_g ?_
       refine wl_pt ?_
       refine wl_g ?_
       refine wl_m ?_
       refine wl_n ?_
       refine wl_n ?_
       refine wl_n ?_
       refine wl_n ?_
       refine wl_g ?_
       refine wl_pt ?_
       refine wl_pt ?_
       refine wl_a ?_
       refine wl_nil (nrm_same ?_)
       refine ⟨true, ⟨rfl, trivial⟩, ⟨rfl, rfl, rfl, trivial⟩, (Evo.refl [] w2), ?_⟩
       simp only [decide_eq_true_eq, Bool.false_eq_true, true_iff, false_iff, Bool.not_eq_true'] at *
       grind
      ·skip
       refine wl_g ?_
       refine wl_m ?_
       refine wl_g ?_
       refine wl_val rfl (ex_eql rfl rfl) ?_
       refine wl_g ?_
       refine wl_pf ?_
       refine wl_g ?_
       refine wl_m ?_
       refine wl_split (t := 27) rfl (fun hs27 => ?_) (fun hs27 => ?_)
       ·skip
        refine wl_n ?_
        refine wl_n ?_
        refine wl_g ?_
        refine wl_pt ?_
        refine wl_g ?_
        refine wl_m ?_
        refine wl_n ?_
        refine wl_n ?_
        refine wl_n ?_
        refine wl_n ?_
        refine wl_g ?_
        refine wl_pt ?_
        refine wl_pt ?_
        refine wl_a ?_
        refine wl_nil (nrm_same ?_)
        refine ⟨true, ⟨rfl, trivial⟩, ⟨rfl, rfl, rfl, trivial⟩, (Evo.refl [] w2), ?_⟩
        simp only [decide_eq_true_eq, Bool.false_eq_true, true_iff, false_iff, Bool.not_eq_true'] at *
        grind
       ·skip
        refine wl_g ?_
        refine wl_m ?_
        refine wl_g ?_
        refine wl_val rfl (ex_eql rfl rfl) ?_
        refine wl_g ?_
        refine wl_pf ?_
        refine wl_g ?_
        refine wl_m ?_
        refine wl_split (t := 31) rfl (fun hs31 => ?_) (fun hs31 => ?_)
        ·skip
         refine wl_n ?_
         refine wl_n ?_
         refine wl_n ?_
         refine wl_n ?_
         refine wl_g ?_
         refine wl_pt ?_
         refine wl_pt ?_
         refine wl_a ?_
         refine wl_nil (nrm_same ?_)
         refine ⟨true, ⟨rfl, trivial⟩, ⟨rfl, rfl, rfl, trivial⟩, (Evo.refl [] w2), ?_⟩
         simp only [decide_eq_true_eq, Bool.false_eq_true, true_iff, false_iff, Bool.not_eq_true'] at *
         grind
        ·skip
         refine wl_g ?_
         refine wl_val rfl (ex_fieldAddr rfl Try.fld25_8) ?_
         refine wl_g ?_
         refine wl_val rfl (ex_load1 rfl Try.agg23 (cell_nth hB3 rfl)) ?_
         refine wl_g ?_
         refine wl_val rfl (ex_len_slice rfl Try.underlying23 rfl) ?_
         refine wl_g ?_
         refine wl_val rfl (ex_eql rfl rfl) ?_
         refine wl_g ?_
         refine wl_pf ?_
         refine wl_pt ?_
         refine wl_a ?_
         refine wl_nil (nrm_same ?_)
         refine ⟨(decide ((t.kids.length : Int) = 0)), ⟨rfl, trivial⟩, ⟨rfl, rfl, rfl, trivial⟩, (Evo.refl [] w2), ?_⟩
         simp only [decide_eq_true_eq, Bool.false_eq_true, true_iff, false_iff, Bool.not_eq_true'] at *
         grind
    ·skip
     refine wl_n ?_
     refine wl_n ?_
     refine wl_n ?_
     refine wl_u ?_
     refine wl_u ?_
     refine wl_n ?_
     refine wl_n ?_
     refine wl_u ?_
     refine wl_u ?_
     refine wl_n ?_
     refine wl_n ?_
     refine wl_u ?_
     refine wl_u ?_
     refine wl_n ?_
     refine wl_n ?_
     refine wl_u ?_
     refine wl_u ?_
     refine wl_u ?_
     refine wl_u ?_
     refine wl_n ?_
     refine wl_pf ?_
     refine wl_a ?_
     refine wl_nil (nrm_same ?_)
     refine ⟨false, ⟨rfl, trivial⟩, ⟨rfl, rfl, rfl, trivial⟩, (Evo.refl [] w2), ?_⟩
     simp only [decide_eq_true_eq, Bool.false_eq_true, true_iff, false_iff, Bool.not_eq_true'] at *
     grind
  ·skip
   rintro z w8 ⟨hV9, hz⟩
   refine nrm_then ?_
   show CW _ _ _ _ [(4, _), (1, _), (2, _), (3, _)] _
   have hE10 := hE7.then hV9
   have hB11 := hV9.blk0 hB3
   refine cw_seq ?_
   refine cw_cut (α := Bool) (fun y => [(5, .bool y)]) [(2, _), (4, _)] (fun y wr => Evo [] w8 wr ∧ (y = true ↔ (t.kind = 2 ∨ t.r = 0) ∧ (t.kind = 6 ∨ t.min = 0) ∧ (t.kind = 6 ∨ t.max = 0) ∧ (t.kind = 6 ∨ t.lazy = false) ∧ (t.kind = 7 ∨ t.cap = 0) ∧ (t.kind = 7 ∨ t.name = ByteArray.mk #[]))) ⟨rfl, rfl, trivial⟩ ?_ ?_
   ·skip
    refine cw_region ?_
    refine wl_m ?_
    refine wl_val rfl (ex_eql rfl rfl) ?_
    refine wl_m ?_
    refine wl_split (t := 40) rfl (fun hs40 => ?_) (fun hs40 => ?_)
    ·skip
     refine wl_n ?_
     refine wl_n ?_
     refine wl_n ?_
     refine wl_pt ?_
     refine wl_m ?_
     refine wl_g ?_
     refine wl_m ?_
     refine wl_g ?_
     refine wl_val rfl (ex_eql rfl rfl) ?_
     refine wl_g ?_
     refine wl_m ?_
     refine wl_split (t := 48) rfl (fun hs48 => ?_) (fun hs48 => ?_)
     ·skip
      refine wl_n ?_
      refine wl_n ?_
      refine wl_n ?_
      refine wl_n ?_
      refine wl_u ?_
      refine wl_u ?_
      refine wl_u ?_
      refine wl_n ?_
      refine wl_n ?_
      refine wl_u ?_
      refine wl_u ?_
      refine wl_u ?_
      refine wl_n ?_
      refine wl_g ?_
      refine wl_pt ?_
      refine wl_pt ?_
      refine wl_m ?_
      refine wl_g ?_
      refine wl_m ?_
      refine wl_g ?_
      refine wl_val rfl (ex_eql rfl rfl) ?_
      refine wl_g ?_
      refine wl_m ?_
      refine wl_split (t := 67) rfl (fun hs67 => ?_) (fun hs67 => ?_)
      ·skip
       refine wl_n ?_
       refine wl_n ?_
       refine wl_n ?_
       refine wl_n ?_
       refine wl_u ?_
       refine wl_u ?_
       refine wl_u ?_
       refine wl_n ?_
       refine wl_g ?_
       refine wl_pt ?_
       refine wl_pt ?_
       refine wl_a ?_
       refine wl_nil (nrm_same ?_)
       refine ⟨true, ⟨rfl, trivial⟩, ⟨rfl, rfl, trivial⟩, (Evo.refl [] w8), ?_⟩
       simp only [decide_eq_true_eq, Bool.false_eq_true, true_iff, false_iff, Bool.not_eq_true'] at *
       grind
      ·skip
       refine wl_g ?_
       refine wl_val rfl (ex_fieldAddr rfl Try.fld25_6) ?_
       refine wl_g ?_
       refine wl_val rfl (ex_load1 rfl Try.agg3 (cell_nth hB11 rfl)) ?_
       refine wl_g ?_
       refine wl_val rfl (ex_eql rfl rfl) ?_
       refine wl_g ?_
       refine wl_m ?_
       refine wl_split (t := 71) rfl (fun hs71 => ?_) (fun hs71 => ?_)
       ·skip
        refine wl_g ?_
        refine wl_val rfl (ex_fieldAddr rfl Try.fld25_7) ?_
        refine wl_g ?_
        refine wl_val rfl (ex_load1 rfl Try.agg9 (cell_nth hB11 rfl)) ?_
        refine wl_g ?_
        refine wl_val rfl (ex_eqs rfl rfl) ?_
        refine wl_g ?_
        refine wl_pt ?_
        refine wl_g ?_
        refine wl_pf ?_
        refine wl_pt ?_
        refine wl_a ?_
        refine wl_nil (nrm_same ?_)
        refine ⟨(decide (t.name = ByteArray.mk #[])), ⟨rfl, trivial⟩, ⟨rfl, rfl, trivial⟩, (Evo.refl [] w8), ?_⟩
        simp only [decide_eq_true_eq, Bool.false_eq_true, true_iff, false_iff, Bool.not_eq_true'] at *
        grind
       ·skip
        refine wl_n ?_
        refine wl_n ?_
        refine wl_n ?_
        refine wl_g ?_
        refine wl_pf ?_
        refine wl_g ?_
        refine wl_pf ?_
        refine wl_pt ?_
        refine wl_a ?_
        refine wl_nil (nrm_same ?_)
        refine ⟨false, ⟨rfl, trivial⟩, ⟨rfl, rfl, trivial⟩, (Evo.refl [] w8), ?_⟩
        simp only [decide_eq_true_eq, Bool.false_eq_true, true_iff, false_iff, Bool.not_eq_true'] at *
        grind
     ·skip
      refine wl_g ?_
      refine wl_val rfl (ex_fieldAddr rfl Try.fld25_3) ?_
      refine wl_g ?_
      refine wl_val rfl (ex_load1 rfl Try.agg3 (cell_nth hB11 rfl)) ?_
      refine wl_g ?_
      refine wl_val rfl (ex_eql rfl rfl) ?_
      refine wl_g ?_
      refine wl_m ?_
      refine wl_split (t := 52) rfl (fun hs52 => ?_) (fun hs52 => ?_)
      ·skip
       refine wl_g ?_
       refine wl_val rfl (ex_fieldAddr rfl Try.fld25_4) ?_
       refine wl_g ?_
       refine wl_val rfl (ex_load1 rfl Try.agg3 (cell_nth hB11 rfl)) ?_
       refine wl_g ?_
       refine wl_val rfl (ex_eql rfl rfl) ?_
       refine wl_g ?_
       refine wl_pt ?_
       refine wl_g ?_
       refine wl_m ?_
       refine wl_split (t := 57) rfl (fun hs57 => ?_) (fun hs57 => ?_)
       ·skip
        refine wl_g ?_
        refine wl_val rfl (ex_fieldAddr rfl Try.fld25_5) ?_
        refine wl_g ?_
        refine wl_val rfl (ex_load1 rfl Try.agg4 (cell_nth hB11 rfl)) ?_
        refine wl_g ?_
        refine wl_val rfl (ex_notb rfl) ?_
        refine wl_g ?_
        refine wl_pt ?_
        refine wl_g ?_
        refine wl_pf ?_
        refine wl_pt ?_
        refine wl_m ?_
        refine wl_splitb (t := 64) rfl (fun hs64 => ?_) (fun hs64 => ?_)
        ·skip
         refine wl_g ?_
         refine wl_m ?_
         refine wl_g ?_
         refine wl_val rfl (ex_eql rfl rfl) ?_
         refine wl_g ?_
         refine wl_m ?_
         refine wl_split (t := 67) rfl (fun hs67 => ?_) (fun hs67 => ?_)
         ·skip
          refine wl_n ?_
          refine wl_n ?_
          refine wl_n ?_
          refine wl_n ?_
          refine wl_u ?_
          refine wl_u ?_
          refine wl_u ?_
          refine wl_n ?_
          refine wl_g ?_
          refine wl_pt ?_
          refine wl_pt ?_
          refine wl_a ?_
          refine wl_nil (nrm_same ?_)
          refine ⟨true, ⟨rfl, trivial⟩, ⟨rfl, rfl, trivial⟩, (Evo.refl [] w8), ?_⟩
          simp only [decide_eq_true_eq, Bool.false_eq_true, true_iff, false_iff, Bool.not_eq_true'] at *
          grind
         ·skip
          refine wl_g ?_
          refine wl_val rfl (ex_fieldAddr rfl Try.fld25_6) ?_
          refine wl_g ?_
          refine wl_val rfl (ex_load1 rfl Try.agg3 (cell_nth hB11 rfl)) ?_
          refine wl_g ?_
          refine wl_val rfl (ex_eql rfl rfl) ?_
          refine wl_g ?_
          refine wl_m ?_
          refine wl_split (t := 71) rfl (fun hs71 => ?_) (fun hs71 => ?_)
          ·skip
           refine wl_g ?_
           refine wl_val rfl (ex_fieldAddr rfl Try.fld25_7) ?_
           refine wl_g ?_
           refine wl_val rfl (ex_load1 rfl Try.agg9 (cell_nth hB11 rfl)) ?_
           refine wl_g ?_
           refine wl_val rfl (ex_eqs rfl rfl) ?_
           refine wl_g ?_
           refine wl_pt ?_
           refine wl_g ?_
           refine wl_pf ?_
           refine wl_pt ?_
           refine wl_a ?_
           refine wl_nil (nrm_same ?_)
           refine ⟨(decide (t.name = ByteArray.mk #[])), ⟨rfl, trivial⟩, ⟨rfl, rfl, trivial⟩, (Evo.refl [] w8), ?_⟩
           simp only [decide_eq_true_eq, Bool.false_eq_true, true_iff, false_iff, Bool.not_eq_true'] at *
           grind
          ·skip
           refine wl_n ?_
           refine wl_n ?_
           refine wl_n ?_
           refine wl_g ?_
           refine wl_pf ?_
           refine wl_g ?_
           refine wl_pf ?_
           refine wl_pt ?_
           refine wl_a ?_
           refine wl_nil (nrm_same ?_)
           refine ⟨false, ⟨rfl, trivial⟩, ⟨rfl, rfl, trivial⟩, (Evo.refl [] w8), ?_⟩
           simp only [decide_eq_true_eq, Bool.false_eq_true, true_iff, false_iff, Bool.not_eq_true'] at *
           grind
        ·skip
         refine wl_n ?_
         refine wl_n ?_
         refine wl_n ?_
         refine wl_u ?_
         refine wl_u ?_
         refine wl_u ?_
         refine wl_u ?_
         refine wl_u ?_
         refine wl_u ?_
         refine wl_u ?_
         refine wl_u ?_
         refine wl_n ?_
         refine wl_pf ?_
         refine wl_a ?_
         refine wl_nil (nrm_same ?_)
         refine ⟨false, ⟨rfl, trivial⟩, ⟨rfl, rfl, trivial⟩, (Evo.refl [] w8), ?_⟩
         simp only [decide_eq_true_eq, Bool.false_eq_true, true_iff, false_iff, Bool.not_eq_true'] at *
         grind
       ·skip
        refine wl_n ?_
        refine wl_n ?_
        refine wl_n ?_
        refine wl_g ?_
        refine wl_pf ?_
        refine wl_g ?_
        refine wl_pf ?_
        refine wl_pt ?_
        refine wl_m ?_
        refine wl_n ?_
        refine wl_n ?_
        refine wl_n ?_
        refine wl_u ?_
        refine wl_u ?_
        refine wl_u ?_
        refine wl_u ?_
        refine wl_u ?_
        refine wl_u ?_
        refine wl_u ?_
        refine wl_u ?_
        refine wl_n ?_
        refine wl_pf ?_
        refine wl_a ?_
        refine wl_nil (nrm_same ?_)
        refine ⟨false, ⟨rfl, trivial⟩, ⟨rfl, rfl, trivial⟩, (Evo.refl [] w8), ?_⟩
        simp only [decide_eq_true_eq, Bool.false_eq_true, true_iff, false_iff, Bool.not_eq_true'] at *
        grind
      ·skip
       refine wl_n ?_
       refine wl_n ?_
       refine wl_n ?_
       refine wl_g ?_
       refine wl_pf ?_
       refine wl_g ?_
       refine wl_m ?_
       refine wl_n ?_
       refine wl_n ?_
       refine wl_n ?_
       refine wl_g ?_
       refine wl_pf ?_
       refine wl_g ?_
       refine wl_pf ?_
       refine wl_pt ?_
       refine wl_m ?_
       refine wl_n ?_
       refine wl_n ?_
       refine wl_n ?_
       refine wl_u ?_
       refine wl_u ?_
       refine wl_u ?_
       refine wl_u ?_
       refine wl_u ?_
       refine wl_u ?_
       refine wl_u ?_
       refine wl_u ?_
       refine wl_n ?_
       refine wl_pf ?_
       refine wl_a ?_
       refine wl_nil (nrm_same ?_)
       refine ⟨false, ⟨rfl, trivial⟩, ⟨rfl, rfl, trivial⟩, (Evo.refl [] w8), ?_⟩
       simp only [decide_eq_true_eq, Bool.false_eq_true, true_iff, false_iff, Bool.not_eq_true'] at *
       grind
    ·skip
     refine wl_g ?_
     refine wl_val rfl (ex_fieldAddr rfl Try.fld25_1) ?_
     refine wl_g ?_
     refine wl_val rfl (ex_load1 rfl Try.agg21 (cell_nth hB11 rfl)) ?_
     refine wl_g ?_
     refine wl_val rfl (ex_eql rfl rfl) ?_
     refine wl_pf ?_
     refine wl_m ?_
     refine wl_split (t := 45) rfl (fun hs45 => ?_) (fun hs45 => ?_)
     ·skip
      refine wl_g ?_
      refine wl_m ?_
      refine wl_g ?_
      refine wl_val rfl (ex_eql rfl rfl) ?_
      refine wl_g ?_
      refine wl_m ?_
      refine wl_split (t := 48) rfl (fun hs48 => ?_) (fun hs48 => ?_)
      ·skip
       refine wl_n ?_
       refine wl_n ?_
       refine wl_n ?_
       refine wl_n ?_
       refine wl_u ?_
       refine wl_u ?_
       refine wl_u ?_
       refine wl_n ?_
       refine wl_n ?_
       refine wl_u ?_
       refine wl_u ?_
       refine wl_u ?_
       refine wl_n ?_
       refine wl_g ?_
       refine wl_pt ?_
       refine wl_pt ?_
       refine wl_m ?_
       refine wl_g ?_
       refine wl_m ?_
       refine wl_g ?_
       refine wl_val rfl (ex_eql rfl rfl) ?_
       refine wl_g ?_
       refine wl_m ?_
       refine wl_split (t := 67) rfl (fun hs67 => ?_) (fun hs67 => ?_)
       ·skip
        refine wl_n ?_
        refine wl_n ?_
        refine wl_n ?_
        refine wl_n ?_
        refine wl_u ?_
        refine wl_u ?_
        refine wl_u ?_
        refine wl_n ?_
        refine wl_g ?_
        refine wl_pt ?_
        refine wl_pt ?_
        refine wl_a ?_
        refine wl_nil (nrm_same ?_)
        refine ⟨true, ⟨rfl, trivial⟩, ⟨rfl, rfl, trivial⟩, (Evo.refl [] w8), ?_⟩
        simp only [decide_eq_true_eq, Bool.false_eq_true, true_iff, false_iff, Bool.not_eq_true'] at *
        grind
       ·skip
        refine wl_g ?_
        refine wl_val rfl (ex_fieldAddr rfl Try.fld25_6) ?_
        refine wl_g ?_
        refine wl_val rfl (ex_load1 rfl Try.agg3 (cell_nth hB11 rfl)) ?_
        refine wl_g ?_
        refine wl_val rfl (ex_eql rfl rfl) ?_
        refine wl_g ?_
        refine wl_m ?_
        refine wl_split (t := 71) rfl (fun hs71 => ?_) (fun hs71 => ?_)
        ·skip
         refine wl_g ?_
         refine wl_val rfl (ex_fieldAddr rfl Try.fld25_7) ?_
         refine wl_g ?_
         refine wl_val rfl (ex_load1 rfl Try.agg9 (cell_nth hB11 rfl)) ?_
         refine wl_g ?_
         refine wl_val rfl (ex_eqs rfl rfl) ?_
         refine wl_g ?_
         refine wl_pt ?_
         refine wl_g ?_
         refine wl_pf ?_
         refine wl_pt ?_
         refine wl_a ?_
         refine wl_nil (nrm_same ?_)
         refine ⟨(decide (t.name = ByteArray.mk #[])), ⟨rfl, trivial⟩, ⟨rfl, rfl, trivial⟩, (Evo.refl [] w8), ?_⟩
         simp only [decide_eq_true_eq, Bool.false_eq_true, true_iff, false_iff, Bool.not_eq_true'] at *
         grind
        ·skip
         refine wl_n ?_
         refine wl_n ?_
         refine wl_n ?_
         refine wl_g ?_
         refine wl_pf ?_
         refine wl_g ?_
         refine wl_pf ?_
         refine wl_pt ?_
         refine wl_a ?_
         refine wl_nil (nrm_same ?_)
         refine ⟨false, ⟨rfl, trivial⟩, ⟨rfl, rfl, trivial⟩, (Evo.refl [] w8), ?_⟩
         simp only [decide_eq_true_eq, Bool.false_eq_true, true_iff, false_iff, Bool.not_eq_true'] at *
         grind
      ·skip
       refine wl_g ?_
       refine wl_val rfl (ex_fieldAddr rfl Try.fld25_3) ?_
       refine wl_g ?_
       refine wl_val rfl (ex_load1 rfl Try.agg3 (cell_nth hB11 rfl)) ?_
       refine wl_g ?_
       refine wl_val rfl (ex_eql rfl rfl) ?_
       refine wl_g ?_
       refine wl_m ?_
       refine wl_split (t := 52) rfl (fun hs52 => ?_) (fun hs52 => ?_)
       ·skip
        refine wl_g ?_
        refine wl_val rfl (ex_fieldAddr rfl Try.fld25_4) ?_
        refine wl_g ?_
        refine wl_val rfl (ex_load1 rfl Try.agg3 (cell_nth hB11 rfl)) ?_
        refine wl_g ?_
        refine wl_val rfl (ex_eql rfl rfl) ?_
        refine wl_g ?_
        refine wl_pt ?_
        refine wl_g ?_
        refine wl_m ?_
        refine wl_split (t := 57) rfl (fun hs57 => ?_) (fun hs57 => ?_)
        ·skip
         refine wl_g ?_
         refine wl_val rfl (ex_fieldAddr rfl Try.fld25_5) ?_
         refine wl_g ?_
         refine wl_val rfl (ex_load1 rfl Try.agg4 (cell_nth hB11 rfl)) ?_
         refine wl_g ?_
         refine wl_val rfl (ex_notb rfl) ?_
         refine wl_g ?_
         refine wl_pt ?_
         refine wl_g ?_
         refine wl_pf ?_
         refine wl_pt ?_
         refine wl_m ?_
         refine wl_splitb (t := 64) rfl (fun hs64 => ?_) (fun hs64 => ?_)
         ·skip
          refine wl_g ?_
          refine wl_m ?_
          refine wl_g ?_
          refine wl_val rfl (ex_eql rfl rfl) ?_
          refine wl_g ?_
          refine wl_m ?_
          refine wl_split (t := 67) rfl (fun hs67 => ?_) (fun hs67 => ?_)
          ·skip
           refine wl_n ?_
           refine wl_n ?_
           refine wl_n ?_
           refine wl_n ?_
           refine wl_u ?_
           refine wl_u ?_
           refine wl_u ?_
           refine wl_n ?_
           refine wl_g ?_
           refine wl_pt ?_
           refine wl_pt ?_
           refine wl_a ?_
           refine wl_nil (nrm_same ?_)
           refine ⟨true, ⟨rfl, trivial⟩, ⟨rfl, rfl, trivial⟩, (Evo.refl [] w8), ?_⟩
           simp only [decide_eq_true_eq, Bool.false_eq_true, true_iff, false_iff, Bool.not_eq_true'] at *
           grind
          ·skip
           refine wl_g ?_
           refine wl_val rfl (ex_fieldAddr rfl Try.fld25_6) ?_
           refine wl_g ?_
           refine wl_val rfl (ex_load1 rfl Try.agg3 (cell_nth hB11 rfl)) ?_
           refine wl_g ?_
           refine wl_val rfl (ex_eql rfl rfl) ?_
           refine wl_g ?_
           refine wl_m ?_
           refine wl_split (t := 71) rfl (fun hs71 => ?_) (fun hs71 => ?_)
           ·skip
            refine wl_g ?_
            refine wl_val rfl (ex_fieldAddr rfl Try.fld25_7) ?_
            refine wl_g ?_
            refine wl_val rfl (ex_load1 rfl Try.agg9 (cell_nth hB11 rfl)) ?_
            refine wl_g ?_
            refine wl_val rfl (ex_eqs rfl rfl) ?_
            refine wl_g ?_
            refine wl_pt ?_
            refine wl_g ?_
            refine wl_pf ?_
            refine wl_pt ?_
            refine wl_a ?_
            refine wl_nil (nrm_same ?_)
            refine ⟨(decide (t.name = ByteArray.mk #[])), ⟨rfl, trivial⟩, ⟨rfl, rfl, trivial⟩, (Evo.refl [] w8), ?_⟩
            simp only [decide_eq_true_eq, Bool.false_eq_true, true_iff, false_iff, Bool.not_eq_true'] at *
            grind
           ·skip
            refine wl_n ?_
            refine wl_n ?_
            refine wl_n ?_
            refine wl_g ?_
            refine wl_pf ?_
            refine wl_g ?_
            refine wl_pf ?_
            refine wl_pt ?_
            refine wl_a ?_
            refine wl_nil (nrm_same ?_)
            refine ⟨false, ⟨rfl, trivial⟩, ⟨rfl, rfl, trivial⟩, (Evo.refl [] w8), ?_⟩
            simp only [decide_eq_true_eq, Bool.false_eq_true, true_iff, false_iff, Bool.not_eq_true'] at *
            grind
         ·skip
          refine wl_n ?_
          refine wl_n ?_
          refine wl_n ?_
          refine wl_u ?_
          refine wl_u ?_
          refine wl_u ?_
          refine wl_u ?_
          refine wl_u ?_
          refine wl_u ?_
          refine wl_u ?_
          refine wl_u ?_
          refine wl_n ?_
          refine wl_pf ?_
          refine wl_a ?_
          refine wl_nil (nrm_same ?_)
          refine ⟨false, ⟨rfl, trivial⟩, ⟨rfl, rfl, trivial⟩, (Evo.refl [] w8), ?_⟩
          simp only [decide_eq_true_eq, Bool.false_eq_true, true_iff, false_iff, Bool.not_eq_true'] at *
          grind
        ·skip
         refine wl_n ?_
         refine wl_n ?_
         refine wl_n ?_
         refine wl_g ?_
         refine wl_pf ?_
         refine wl_g ?_
         refine wl_pf ?_
         refine wl_pt ?_
         refine wl_m ?_
         refine wl_n ?_
         refine wl_n ?_
         refine wl_n ?_
         refine wl_u ?_
         refine wl_u ?_
         refine wl_u ?_
         refine wl_u ?_
         refine wl_u ?_
         refine wl_u ?_
         refine wl_u ?_
         refine wl_u ?_
         refine wl_n ?_
         refine wl_pf ?_
         refine wl_a ?_
         refine wl_nil (nrm_same ?_)
         refine ⟨false, ⟨rfl, trivial⟩, ⟨rfl, rfl, trivial⟩, (Evo.refl [] w8), ?_⟩
         simp only [decide_eq_true_eq, Bool.false_eq_true, true_iff, false_iff, Bool.not_eq_true'] at *
         grind
       ·skip
        refine wl_n ?_
        refine wl_n ?_
        refine wl_n ?_
        refine wl_g ?_
        refine wl_pf ?_
        refine wl_g ?_
        refine wl_m ?_
        refine wl_n ?_
        refine wl_n ?_
        refine wl_n ?_
        refine wl_g ?_
        refine wl_pf ?_
        refine wl_g ?_
        refine wl_pf ?_
        refine wl_pt ?_
        refine wl_m ?_
        refine wl_n ?_
        refine wl_n ?_
        refine wl_n ?_
        refine wl_u ?_
        refine wl_u ?_
        refine wl_u ?_
        refine wl_u ?_
        refine wl_u ?_
        refine wl_u ?_
        refine wl_u ?_
        refine wl_u ?_
        refine wl_n ?_
        refine wl_pf ?_
        refine wl_a ?_
        refine wl_nil (nrm_same ?_)
        refine ⟨false, ⟨rfl, trivial⟩, ⟨rfl, rfl, trivial⟩, (Evo.refl [] w8), ?_⟩
        simp only [decide_eq_true_eq, Bool.false_eq_true, true_iff, false_iff, Bool.not_eq_true'] at *
        grind
     ·skip
      refine wl_n ?_
      refine wl_n ?_
      refine wl_n ?_
      refine wl_u ?_
      refine wl_u ?_
      refine wl_u ?_
      refine wl_u ?_
      refine wl_u ?_
      refine wl_u ?_
      refine wl_u ?_
      refine wl_u ?_
      refine wl_u ?_
      refine wl_u ?_
      refine wl_u ?_
      refine wl_u ?_
      refine wl_u ?_
      refine wl_n ?_
      refine wl_pf ?_
      refine wl_m ?_
      refine wl_n ?_
      refine wl_n ?_
      refine wl_n ?_
      refine wl_u ?_
      refine wl_u ?_
      refine wl_u ?_
      refine wl_u ?_
      refine wl_u ?_
      refine wl_u ?_
      refine wl_u ?_
      refine wl_u ?_
      refine wl_n ?_
      refine wl_pf ?_
      refine wl_a ?_
      refine wl_nil (nrm_same ?_)
      refine ⟨false, ⟨rfl, trivial⟩, ⟨rfl, rfl, trivial⟩, (Evo.refl [] w8), ?_⟩
      simp only [decide_eq_true_eq, Bool.false_eq_true, true_iff, false_iff, Bool.not_eq_true'] at *
      grind
   ·skip
    rintro y w12 ⟨hV13, hy⟩
    refine nrm_then ?_
    show CW _ _ _ _ [(5, _), (2, _), (4, _)] _
    have hE14 := hE10.then hV13
    have hB15 := hV13.blk0 hB11
    refine cw_seq ?_
    refine cw_region ?_
    refine wl_m ?_
    refine wl_m ?_
    refine wl_splitb (t := 79) rfl (fun hs79 => ?_) (fun hs79 => ?_)
    ·skip
     subst hs79
     refine wl_g ?_
     refine wl_m ?_
     refine wl_pt ?_
     refine wl_a ?_
     refine wl_nil (nrm_then ?_)
     refine cw_ret (body_ret1 rfl rfl ?_)
     refine ⟨_, rfl, ?_, hE14⟩
     rw [bareP_iff, hy]
     have := hz.1 rfl
     grind
    ·skip
     subst hs79
     refine wl_n ?_
     refine wl_pf ?_
     refine wl_a ?_
     refine wl_nil (nrm_then ?_)
     refine cw_ret (body_ret1 rfl rfl ?_)
     refine ⟨false, rfl, ?_, hE14⟩
     rw [bareP_iff]
     simp only [Bool.false_eq_true, false_iff]; intro hh
     have := hz.2 ⟨hh.1, hh.2.1⟩
     cases this


theorem rng_last {l : List (Int × Int)} {k j : Nat} (hk : k < l.length) (h : j < l.length) (e : k + 1 = j + 1) : l[k].2 + 2 = l[j].2 + 2 := by
  obtain rfl : k = j := by omega
  rfl

theorem ranges_ok {X : List Nat} {w : World} {v : Value} {l : List (Int × Int)} (hs : RSl 2 RRg X w v l) (hl : l.length ≤ 140737488351232) : Calls Try.prog 39 #[v] w (Ret fun v w' => ∃ b, v = .bool b ∧ (b = true ↔ RangesOk l) ∧ Evo [] w w') := by
  obtain ⟨sa, sc, rfl, hlc, e1⟩ := hs
  refine calls_of_cw (N := 59) Try.func39 rfl rfl rfl ?_
  refine cw_seq ?_
  refine cw_region ?_
  refine wl_a ?_
  refine wl_nil (nrm_then ?_)
  refine cw_seq ?_
  refine cw_region ?_
  refine wl_a ?_
  refine wl_nil (nrm_then ?_)
  refine cw_seq ?_
  refine cw_seq ?_
  refine cw_region ?_
  refine wl_a ?_
  refine wl_nil (nrm_then ?_)
  refine cw_block ?_
  refine cw_loop (α := Nat × Int) ((0, 0)) (fun x => [(3, .int .i32 x.2), (4, .int .i64 (x.1 : Nat))]) [(0, _)] (fun x wr => Evo [] w wr ∧ (x.1 ≤ l.length ∧ RangesTo l x.1 ∧ (x.1 = 0 → x.2 = 0) ∧ (∀ j (h : j < l.length), x.1 = j + 1 → x.2 = l[j].2 + 2))) (fun x => l.length - x.1) ⟨rfl, rfl, trivial⟩ ⟨rfl, trivial⟩ ⟨Evo.refl _ _, ⟨Nat.zero_le _, fun i _ h => by omega, fun _ => rfl, fun j _ h => by omega⟩⟩ ?_
  rintro ⟨k, nx⟩ wr1 ⟨hV2, ⟨hk, hok, hn0, hn1⟩⟩
  show CW _ _ _ _ [(3, .int .i32 nx), (4, .int .i64 (k : Nat)), (0, _)] _
  try dsimp only at hk
  try dsimp only at hok
  try dsimp only at hn0
  try dsimp only at hn1
  have hE3 := (Evo.refl [] w).then hV2
  refine cw_seq ?_
  refine cw_seq ?_
  refine cw_region ?_
  refine wl_m ?_
  refine wl_m ?_
  refine wl_val rfl (ex_len_slice rfl Try.underlying22 rfl) ?_
  refine wl_val rfl (ex_lss rfl rfl) ?_
  refine wl_nil (nrm_then ?_)
  refine cw_if rfl (fun hc8 => ?_) (fun hc8 => ?_)
  ·skip
   have hnx : 0 ≤ nx := by
      by_cases hk0 : k = 0
      · have := hn0 hk0; omega
      · have h1 := hn1 (k - 1) (by omega) (by omega); have h2 := (hok (k - 1) (by omega) (by omega)); omega
   have hk' : k < l.length := by omega
   obtain ⟨b1, o1, vs1, ha1, hb1, -, hc1, rfl⟩ := e1 k hk'
   refine cw_skip (nrm_then ?_)
   refine cw_seq ?_
   refine cw_block ?_
   refine cw_seq ?_
   refine cw_seq ?_
   refine cw_quiet (by kernel_rfl) (by kernel_rfl) ?_
   refine ql_val rfl (fun _ hq5 => ex_move rfl) ?_
   refine ql_val rfl (fun _ hq5 => ex_move rfl) ?_
   refine ql_val rfl (fun _ hq5 => ex_indexAddr (n := k) (by rw [ha1]; rfl) rfl Try.elem22 (by omega)) ?_
   refine ql_val rfl (fun _ hq5 => ex_fieldAddr rfl Try.fld51_0) ?_
   refine ql_val rfl (fun _ hq5 => ex_load1 rfl Try.agg21 ((hc1.evo (hE3.then hq5) (by simp)) 0 _ rfl)) ?_
   refine ql_val rfl (fun _ hq5 => ex_move rfl) ?_
   refine ql_val rfl (fun _ hq5 => ex_lss rfl rfl) ?_
   refine ql_val rfl (fun _ hq5 => ex_move rfl) ?_
   refine ql_split (t := 18) rfl (fun hs18 => ?_) (fun hs18 => ?_)
   ·skip
    refine ql_no rfl rfl rfl rfl rfl rfl ?_
    refine ql_no rfl rfl rfl rfl rfl rfl ?_
    refine ql_no rfl rfl rfl rfl rfl rfl ?_
    refine ql_no rfl rfl rfl rfl rfl rfl ?_
    refine ql_no rfl rfl rfl rfl rfl rfl ?_
    refine ql_no rfl rfl rfl rfl rfl rfl ?_
    refine ql_no rfl rfl rfl rfl rfl rfl ?_
    refine ql_no rfl rfl rfl rfl rfl rfl ?_
    refine ql_no rfl rfl rfl rfl rfl rfl ?_
    refine ql_no rfl rfl rfl rfl rfl rfl ?_
    refine ql_no rfl rfl rfl rfl rfl rfl ?_
    refine ql_val rfl (fun _ hq5 => ex_pick_t rfl rfl) ?_
    refine ql_val rfl (fun _ hq5 => ex_move rfl) ?_
    refine ql_no rfl rfl rfl rfl rfl rfl ?_
    refine ql_no rfl rfl rfl rfl rfl rfl ?_
    refine ql_no rfl rfl rfl rfl rfl rfl ?_
    refine ql_no rfl rfl rfl rfl rfl rfl ?_
    refine ql_no rfl rfl rfl rfl rfl rfl ?_
    refine ql_no rfl rfl rfl rfl rfl rfl ?_
    refine ql_val rfl (fun _ hq5 => ex_pick_t rfl rfl) ?_
    refine ql_nil (fun wq4 hq5 => nrm_then ?_)
    have hE6 := hE3.then hq5
    have hE7 := hV2.then hq5
    refine cw_true rfl ?_
    refine cw_seq ?_
    refine cw_region ?_
    refine wl_a ?_
    refine wl_nil (nrm_then ?_)
    refine cw_ret (ret_then (ret_block (ret_then (ret_then (ret_block (ret_then (body_ret1 rfl rfl ?_)))))))
    exact ⟨false, rfl, by simp only [Bool.false_eq_true, false_iff]; exact fun h => by have h2 := h.1 k hk'; by_cases hk0 : k = 0; have := hn0 hk0; omega; have h1 := hn1 (k - 1) (by omega) (by omega); have := h2.2.2.2 (k - 1) (by omega) (by omega); omega, hE6⟩
   ·skip
    refine ql_go rfl rfl rfl rfl ?_
    refine ql_val rfl (fun _ hq5 => ex_move rfl) ?_
    refine ql_go rfl rfl rfl rfl ?_
    refine ql_val rfl (fun _ hq5 => ex_move rfl) ?_
    refine ql_go rfl rfl rfl rfl ?_
    refine ql_val rfl (fun _ hq5 => ex_indexAddr (n := k) (by rw [ha1]; rfl) rfl Try.elem22 (by omega)) ?_
    refine ql_go rfl rfl rfl rfl ?_
    refine ql_val rfl (fun _ hq5 => ex_fieldAddr rfl Try.fld51_1) ?_
    refine ql_go rfl rfl rfl rfl ?_
    refine ql_val rfl (fun _ hq5 => ex_load1 rfl Try.agg21 ((hc1.evo (hE3.then hq5) (by simp)) 1 _ rfl)) ?_
    refine ql_go rfl rfl rfl rfl ?_
    refine ql_val rfl (fun _ hq5 => ex_move rfl) ?_
    refine ql_go rfl rfl rfl rfl ?_
    refine ql_val rfl (fun _ hq5 => ex_move rfl) ?_
    refine ql_go rfl rfl rfl rfl ?_
    refine ql_val rfl (fun _ hq5 => ex_indexAddr (n := k) (by rw [ha1]; rfl) rfl Try.elem22 (by omega)) ?_
    refine ql_go rfl rfl rfl rfl ?_
    refine ql_val rfl (fun _ hq5 => ex_fieldAddr rfl Try.fld51_0) ?_
    refine ql_go rfl rfl rfl rfl ?_
    refine ql_val rfl (fun _ hq5 => ex_load1 rfl Try.agg21 ((hc1.evo (hE3.then hq5) (by simp)) 0 _ rfl)) ?_
    refine ql_go rfl rfl rfl rfl ?_
    refine ql_val rfl (fun _ hq5 => ex_lss rfl rfl) ?_
    refine ql_val rfl (fun _ hq5 => ex_pick_f rfl rfl) ?_
    refine ql_val rfl (fun _ hq5 => ex_move rfl) ?_
    refine ql_split (t := 31) rfl (fun hs31 => ?_) (fun hs31 => ?_)
    ·skip
     refine ql_no rfl rfl rfl rfl rfl rfl ?_
     refine ql_no rfl rfl rfl rfl rfl rfl ?_
     refine ql_no rfl rfl rfl rfl rfl rfl ?_
     refine ql_no rfl rfl rfl rfl rfl rfl ?_
     refine ql_no rfl rfl rfl rfl rfl rfl ?_
     refine ql_no rfl rfl rfl rfl rfl rfl ?_
     refine ql_val rfl (fun _ hq5 => ex_pick_t rfl rfl) ?_
     refine ql_nil (fun wq4 hq5 => nrm_then ?_)
     have hE8 := hE3.then hq5
     have hE9 := hV2.then hq5
     refine cw_true rfl ?_
     refine cw_seq ?_
     refine cw_region ?_
     refine wl_a ?_
     refine wl_nil (nrm_then ?_)
     refine cw_ret (ret_then (ret_block (ret_then (ret_then (ret_block (ret_then (body_ret1 rfl rfl ?_)))))))
     exact ⟨false, rfl, by simp only [Bool.false_eq_true, false_iff]; exact fun h => by have h2 := h.1 k hk'; omega, hE8⟩
    ·skip
     refine ql_go rfl rfl rfl rfl ?_
     refine ql_val rfl (fun _ hq5 => ex_move rfl) ?_
     refine ql_go rfl rfl rfl rfl ?_
     refine ql_val rfl (fun _ hq5 => ex_move rfl) ?_
     refine ql_go rfl rfl rfl rfl ?_
     refine ql_val rfl (fun _ hq5 => ex_indexAddr (n := k) (by rw [ha1]; rfl) rfl Try.elem22 (by omega)) ?_
     refine ql_go rfl rfl rfl rfl ?_
     refine ql_val rfl (fun _ hq5 => ex_fieldAddr rfl Try.fld51_1) ?_
     refine ql_go rfl rfl rfl rfl ?_
     refine ql_val rfl (fun _ hq5 => ex_load1 rfl Try.agg21 ((hc1.evo (hE3.then hq5) (by simp)) 1 _ rfl)) ?_
     refine ql_go rfl rfl rfl rfl ?_
     refine ql_val rfl (fun _ hq5 => ex_gtr rfl rfl) ?_
     refine ql_val rfl (fun _ hq5 => ex_pick_f rfl rfl) ?_
     refine ql_nil (fun wq4 hq5 => nrm_then ?_)
     have hE10 := hE3.then hq5
     have hE11 := hV2.then hq5
     refine cw_if rfl (fun hc38 => ?_) (fun hc38 => ?_)
     ·skip
      refine cw_seq ?_
      refine cw_region ?_
      refine wl_a ?_
      refine wl_nil (nrm_then ?_)
      refine cw_ret (ret_then (ret_block (ret_then (ret_then (ret_block (ret_then (body_ret1 rfl rfl ?_)))))))
      exact ⟨false, rfl, by simp only [Bool.false_eq_true, false_iff]; exact fun h => by have h2 := h.1 k hk'; omega, hE10⟩
     ·skip
      refine cw_skip (nrm_then ?_)
      refine cw_region ?_
      refine wl_m ?_
      refine wl_m ?_
      refine wl_val rfl (ex_indexAddr (n := k) (by rw [ha1]; rfl) rfl Try.elem22 (by omega)) ?_
      refine wl_val rfl (ex_fieldAddr rfl Try.fld51_1) ?_
      refine wl_val rfl (ex_load1 rfl Try.agg21 ((hc1.evo hE10 (by simp)) 1 _ rfl)) ?_
      refine wl_val rfl (ex_add_i32 rfl rfl (by omega) (by omega)) ?_
      refine wl_a ?_
      refine wl_nil (nrm_block (nrm_then ?_))
      refine cw_region ?_
      refine wl_m ?_
      refine wl_val rfl (ex_add_i64 rfl rfl (by omega) (by omega)) ?_
      refine wl_a ?_
      refine wl_nil (nrm_same ?_)
      refine ⟨(k + 1, l[k].2 + 2), ?_, ⟨rfl, rfl, trivial⟩, ⟨rfl, trivial⟩, hE11, ?_⟩
      · (try dsimp only); omega
      ·skip
       try dsimp only
       refine ⟨by omega, hok.succ hk' ?_ (by omega) (by omega) ?_, fun h => by omega, fun j h e => rng_last hk' h e⟩
       · by_cases hk0 : k = 0
         · have := hn0 hk0; omega
         · have h1 := hn1 (k - 1) (by omega) (by omega); have h2 := (hok (k - 1) (by omega) (by omega)); omega
       · intro j hj e; have h1 := hn1 j hj e; omega
  ·skip
   refine cw_exit (ex_then (ex_then (ex_here (nrm_then ?_))))
   refine cw_seq ?_
   refine cw_quiet (by kernel_rfl) (by kernel_rfl) ?_
   refine ql_val rfl (fun _ hq13 => ex_move rfl) ?_
   refine ql_val rfl (fun _ hq13 => ex_len_slice rfl Try.underlying22 rfl) ?_
   refine ql_val rfl (fun _ hq13 => ex_neq rfl rfl) ?_
   refine ql_val rfl (fun _ hq13 => ex_move rfl) ?_
   refine ql_split (t := 48) rfl (fun hs48 => ?_) (fun hs48 => ?_)
   ·skip
    refine ql_no rfl rfl rfl rfl rfl rfl ?_
    refine ql_no rfl rfl rfl rfl rfl rfl ?_
    refine ql_no rfl rfl rfl rfl rfl rfl ?_
    refine ql_no rfl rfl rfl rfl rfl rfl ?_
    refine ql_no rfl rfl rfl rfl rfl rfl ?_
    refine ql_no rfl rfl rfl rfl rfl rfl ?_
    refine ql_no rfl rfl rfl rfl rfl rfl ?_
    refine ql_no rfl rfl rfl rfl rfl rfl ?_
    refine ql_no rfl rfl rfl rfl rfl rfl ?_
    refine ql_val rfl (fun _ hq13 => ex_pick_t rfl rfl) ?_
    refine ql_val rfl (fun _ hq13 => ex_assign rfl) ?_
    refine ql_nil (fun wq12 hq13 => nrm_then ?_)
    have hE14 := hE3.then hq13
    have hE15 := hV2.then hq13
    refine cw_ret (body_ret1 rfl rfl ?_)
    exact ⟨true, rfl, by simp only [true_iff]; exact hok.ok (by omega) (fun h => by omega), hE14⟩
   ·skip
    obtain ⟨b1, o1, vs1, ha1, hb1, -, hc1, rfl⟩ := e1 0 (by omega)
    refine ql_go rfl rfl rfl rfl ?_
    refine ql_val rfl (fun _ hq13 => ex_move rfl) ?_
    refine ql_go rfl rfl rfl rfl ?_
    refine ql_val rfl (fun _ hq13 => ex_indexAddrZ (n := 0) (by rw [ha1]; rfl) rfl rfl Try.elem22 (by omega)) ?_
    refine ql_go rfl rfl rfl rfl ?_
    refine ql_val rfl (fun _ hq13 => ex_fieldAddr rfl Try.fld51_0) ?_
    refine ql_go rfl rfl rfl rfl ?_
    refine ql_val rfl (fun _ hq13 => ex_load1 rfl Try.agg21 ((hc1.evo (hE3.then hq13) (by simp)) 0 _ rfl)) ?_
    refine ql_go rfl rfl rfl rfl ?_
    refine ql_val rfl (fun _ hq13 => ex_move rfl) ?_
    refine ql_go rfl rfl rfl rfl ?_
    refine ql_val rfl (fun _ hq13 => ex_indexAddrZ (n := 0) (by rw [ha1]; rfl) rfl rfl Try.elem22 (by omega)) ?_
    refine ql_go rfl rfl rfl rfl ?_
    refine ql_val rfl (fun _ hq13 => ex_fieldAddr rfl Try.fld51_1) ?_
    refine ql_go rfl rfl rfl rfl ?_
    refine ql_val rfl (fun _ hq13 => ex_load1 rfl Try.agg21 ((hc1.evo (hE3.then hq13) (by simp)) 1 _ rfl)) ?_
    refine ql_go rfl rfl rfl rfl ?_
    refine ql_val rfl (fun _ hq13 => ex_neq rfl rfl) ?_
    refine ql_val rfl (fun _ hq13 => ex_pick_f rfl rfl) ?_
    refine ql_val rfl (fun _ hq13 => ex_assign rfl) ?_
    refine ql_nil (fun wq12 hq13 => nrm_then ?_)
    have hE16 := hE3.then hq13
    have hE17 := hV2.then hq13
    refine cw_ret (body_ret1 rfl rfl ?_)
    exact ⟨_, rfl, by simp only [decide_eq_true_eq]; exact ⟨fun h => hok.ok (by omega) (fun _ => h), fun h => h.2 (by omega)⟩, hE16⟩

theorem wordRune_ok {w : World} (c : Nat) : Calls Try.prog 59 #[.int .i32 (c : Nat)] w (Ret fun v w' => v = .bool (decide (wordN c)) ∧ Evo [] w w') := by
  refine calls_of_cw (N := 29) Try.func59 rfl rfl rfl ?_
  refine cw_seq ?_
  refine cw_region ?_
  refine wl_a ?_
  refine wl_nil (nrm_then ?_)
  refine cw_seq ?_
  refine cw_region ?_
  refine wl_m ?_
  refine wl_val rfl (ex_eql rfl rfl) ?_
  refine wl_m ?_
  refine wl_split (t := 5) rfl (fun hs5 => ?_) (fun hs5 => ?_)
  ·skip
   refine wl_n ?_
   refine wl_n ?_
   refine wl_n ?_
   refine wl_u ?_
   refine wl_u ?_
   refine wl_n ?_
   refine wl_pt ?_
   refine wl_m ?_
   refine wl_n ?_
   refine wl_n ?_
   refine wl_n ?_
   refine wl_u ?_
   refine wl_u ?_
   refine wl_n ?_
   refine wl_pt ?_
   refine wl_m ?_
   refine wl_n ?_
   refine wl_n ?_
   refine wl_n ?_
   refine wl_u ?_
   refine wl_u ?_
   refine wl_n ?_
   refine wl_pt ?_
   refine wl_a ?_
   refine wl_nil (nrm_then ?_)
   refine cw_ret (body_ret1 rfl rfl ?_)
   refine ⟨congrArg Value.bool (Bool.eq_iff_iff.2 ?_), (Evo.refl [] w)⟩
   simp only [decide_eq_true_eq, Bool.false_eq_true, Bool.true_eq_false, true_iff, false_iff, eq_self, iff_true]; unfold wordN; omega
  ·skip
   refine wl_g ?_
   refine wl_m ?_
   refine wl_g ?_
   refine wl_val rfl (ex_geq rfl rfl) ?_
   refine wl_g ?_
   refine wl_m ?_
   refine wl_split (t := 8) rfl (fun hs8 => ?_) (fun hs8 => ?_)
   ·skip
    refine wl_g ?_
    refine wl_m ?_
    refine wl_g ?_
    refine wl_val rfl (ex_leq rfl rfl) ?_
    refine wl_g ?_
    refine wl_pt ?_
    refine wl_pf ?_
    refine wl_m ?_
    refine wl_split (t := 13) rfl (fun hs13 => ?_) (fun hs13 => ?_)
    ·skip
     refine wl_n ?_
     refine wl_n ?_
     refine wl_n ?_
     refine wl_u ?_
     refine wl_u ?_
     refine wl_n ?_
     refine wl_pt ?_
     refine wl_m ?_
     refine wl_n ?_
     refine wl_n ?_
     refine wl_n ?_
     refine wl_u ?_
     refine wl_u ?_
     refine wl_n ?_
     refine wl_pt ?_
     refine wl_a ?_
     refine wl_nil (nrm_then ?_)
     refine cw_ret (body_ret1 rfl rfl ?_)
     refine ⟨congrArg Value.bool (Bool.eq_iff_iff.2 ?_), (Evo.refl [] w)⟩
     simp only [decide_eq_true_eq, Bool.false_eq_true, Bool.true_eq_false, true_iff, false_iff, eq_self, iff_true]; unfold wordN; omega
    ·skip
     refine wl_g ?_
     refine wl_m ?_
     refine wl_g ?_
     refine wl_val rfl (ex_geq rfl rfl) ?_
     refine wl_g ?_
     refine wl_m ?_
     refine wl_split (t := 16) rfl (fun hs16 => ?_) (fun hs16 => ?_)
     ·skip
      refine wl_g ?_
      refine wl_m ?_
      refine wl_g ?_
      refine wl_val rfl (ex_leq rfl rfl) ?_
      refine wl_g ?_
      refine wl_pt ?_
      refine wl_pf ?_
      refine wl_m ?_
      refine wl_split (t := 21) rfl (fun hs21 => ?_) (fun hs21 => ?_)
      ·skip
       refine wl_n ?_
       refine wl_n ?_
       refine wl_n ?_
       refine wl_u ?_
       refine wl_u ?_
       refine wl_n ?_
       refine wl_pt ?_
       refine wl_a ?_
       refine wl_nil (nrm_then ?_)
       refine cw_ret (body_ret1 rfl rfl ?_)
       refine ⟨congrArg Value.bool (Bool.eq_iff_iff.2 ?_), (Evo.refl [] w)⟩
       simp only [decide_eq_true_eq, Bool.false_eq_true, Bool.true_eq_false, true_iff, false_iff, eq_self, iff_true]; unfold wordN; omega
      ·skip
       refine wl_g ?_
       refine wl_m ?_
       refine wl_g ?_
       refine wl_val rfl (ex_geq rfl rfl) ?_
       refine wl_g ?_
       refine wl_m ?_
       refine wl_split (t := 24) rfl (fun hs24 => ?_) (fun hs24 => ?_)
       ·skip
        refine wl_g ?_
        refine wl_m ?_
        refine wl_g ?_
        refine wl_val rfl (ex_leq rfl rfl) ?_
        refine wl_g ?_
        refine wl_pt ?_
        refine wl_pf ?_
        refine wl_a ?_
        refine wl_nil (nrm_then ?_)
        refine cw_ret (body_ret1 rfl rfl ?_)
        refine ⟨congrArg Value.bool (Bool.eq_iff_iff.2 ?_), (Evo.refl [] w)⟩
        simp only [decide_eq_true_eq, Bool.false_eq_true, Bool.true_eq_false, true_iff, false_iff, eq_self, iff_true]; unfold wordN; omega
       ·skip
        refine wl_n ?_
        refine wl_n ?_
        refine wl_g ?_
        refine wl_pf ?_
        refine wl_pf ?_
        refine wl_a ?_
        refine wl_nil (nrm_then ?_)
        refine cw_ret (body_ret1 rfl rfl ?_)
        refine ⟨congrArg Value.bool (Bool.eq_iff_iff.2 ?_), (Evo.refl [] w)⟩
        simp only [decide_eq_true_eq, Bool.false_eq_true, Bool.true_eq_false, true_iff, false_iff, eq_self, iff_true]; unfold wordN; omega
     ·skip
      refine wl_n ?_
      refine wl_n ?_
      refine wl_g ?_
      refine wl_pf ?_
      refine wl_pf ?_
      refine wl_m ?_
      refine wl_g ?_
      refine wl_m ?_
      refine wl_g ?_
      refine wl_val rfl (ex_geq rfl rfl) ?_
      refine wl_g ?_
      refine wl_m ?_
      refine wl_split (t := 24) rfl (fun hs24 => ?_) (fun hs24 => ?_)
      ·skip
       refine wl_g ?_
       refine wl_m ?_
       refine wl_g ?_
       refine wl_val rfl (ex_leq rfl rfl) ?_
       refine wl_g ?_
       refine wl_pt ?_
       refine wl_pf ?_
       refine wl_a ?_
       refine wl_nil (nrm_then ?_)
       refine cw_ret (body_ret1 rfl rfl ?_)
       refine ⟨congrArg Value.bool (Bool.eq_iff_iff.2 ?_), (Evo.refl [] w)⟩
       simp only [decide_eq_true_eq, Bool.false_eq_true, Bool.true_eq_false, true_iff, false_iff, eq_self, iff_true]; unfold wordN; omega
      ·skip
       refine wl_n ?_
       refine wl_n ?_
       refine wl_g ?_
       refine wl_pf ?_
       refine wl_pf ?_
       refine wl_a ?_
       refine wl_nil (nrm_then ?_)
       refine cw_ret (body_ret1 rfl rfl ?_)
       refine ⟨congrArg Value.bool (Bool.eq_iff_iff.2 ?_), (Evo.refl [] w)⟩
       simp only [decide_eq_true_eq, Bool.false_eq_true, Bool.true_eq_false, true_iff, false_iff, eq_self, iff_true]; unfold wordN; omega
   ·skip
    refine wl_n ?_
    refine wl_n ?_
    refine wl_g ?_
    refine wl_pf ?_
    refine wl_pf ?_
    refine wl_m ?_
    refine wl_g ?_
    refine wl_m ?_
    refine wl_g ?_
    refine wl_val rfl (ex_geq rfl rfl) ?_
    refine wl_g ?_
    refine wl_m ?_
    refine wl_split (t := 16) rfl (fun hs16 => ?_) (fun hs16 => ?_)
    ·skip
     refine wl_g ?_
     refine wl_m ?_
     refine wl_g ?_
     refine wl_val rfl (ex_leq rfl rfl) ?_
     refine wl_g ?_
     refine wl_pt ?_
     refine wl_pf ?_
     refine wl_m ?_
     refine wl_split (t := 21) rfl (fun hs21 => ?_) (fun hs21 => ?_)
     ·skip
      refine wl_n ?_
      refine wl_n ?_
      refine wl_n ?_
      refine wl_u ?_
      refine wl_u ?_
      refine wl_n ?_
      refine wl_pt ?_
      refine wl_a ?_
      refine wl_nil (nrm_then ?_)
      refine cw_ret (body_ret1 rfl rfl ?_)
      refine ⟨congrArg Value.bool (Bool.eq_iff_iff.2 ?_), (Evo.refl [] w)⟩
      simp only [decide_eq_true_eq, Bool.false_eq_true, Bool.true_eq_false, true_iff, false_iff, eq_self, iff_true]; unfold wordN; omega
     ·skip
      refine wl_g ?_
      refine wl_m ?_
      refine wl_g ?_
      refine wl_val rfl (ex_geq rfl rfl) ?_
      refine wl_g ?_
      refine wl_m ?_
      refine wl_split (t := 24) rfl (fun hs24 => ?_) (fun hs24 => ?_)
      ·skip
       refine wl_g ?_
       refine wl_m ?_
       refine wl_g ?_
       refine wl_val rfl (ex_leq rfl rfl) ?_
       refine wl_g ?_
       refine wl_pt ?_
       refine wl_pf ?_
       refine wl_a ?_
       refine wl_nil (nrm_then ?_)
       refine cw_ret (body_ret1 rfl rfl ?_)
       refine ⟨congrArg Value.bool (Bool.eq_iff_iff.2 ?_), (Evo.refl [] w)⟩
       simp only [decide_eq_true_eq, Bool.false_eq_true, Bool.true_eq_false, true_iff, false_iff, eq_self, iff_true]; unfold wordN; omega
      ·skip
       refine wl_n ?_
       refine wl_n ?_
       refine wl_g ?_
       refine wl_pf ?_
       refine wl_pf ?_
       refine wl_a ?_
       refine wl_nil (nrm_then ?_)
       refine cw_ret (body_ret1 rfl rfl ?_)
       refine ⟨congrArg Value.bool (Bool.eq_iff_iff.2 ?_), (Evo.refl [] w)⟩
       simp only [decide_eq_true_eq, Bool.false_eq_true, Bool.true_eq_false, true_iff, false_iff, eq_self, iff_true]; unfold wordN; omega
    ·skip
     refine wl_n ?_
     refine wl_n ?_
     refine wl_g ?_
     refine wl_pf ?_
     refine wl_pf ?_
     refine wl_m ?_
     refine wl_g ?_
     refine wl_m ?_
     refine wl_g ?_
     refine wl_val rfl (ex_geq rfl rfl) ?_
     refine wl_g ?_
     refine wl_m ?_
     refine wl_split (t := 24) rfl (fun hs24 => ?_) (fun hs24 => ?_)
     ·skip
      refine wl_g ?_
      refine wl_m ?_
      refine wl_g ?_
      refine wl_val rfl (ex_leq rfl rfl) ?_
      refine wl_g ?_
      refine wl_pt ?_
      refine wl_pf ?_
      refine wl_a ?_
      refine wl_nil (nrm_then ?_)
      refine cw_ret (body_ret1 rfl rfl ?_)
      refine ⟨congrArg Value.bool (Bool.eq_iff_iff.2 ?_), (Evo.refl [] w)⟩
      simp only [decide_eq_true_eq, Bool.false_eq_true, Bool.true_eq_false, true_iff, false_iff, eq_self, iff_true]; unfold wordN; omega
     ·skip
      refine wl_n ?_
      refine wl_n ?_
      refine wl_g ?_
      refine wl_pf ?_
      refine wl_pf ?_
      refine wl_a ?_
      refine wl_nil (nrm_then ?_)
      refine cw_ret (body_ret1 rfl rfl ?_)
      refine ⟨congrArg Value.bool (Bool.eq_iff_iff.2 ?_), (Evo.refl [] w)⟩
      simp only [decide_eq_true_eq, Bool.false_eq_true, Bool.true_eq_false, true_iff, false_iff, eq_self, iff_true]; unfold wordN; omega


/-- The reference's notes: nodes, caps, names. -/
structure CAt (w : World) (jb : Nat) (nodes caps : Nat) (ns : List ByteArray) (a : Option Addr) (c : Nat) (ob : Option Nat) : Prop where
  blk : w.heap[jb]? = some (.cells #[iv (nodes : Nat), iv (caps : Nat), .slice a ns.length c] 56 (0, 0))
  own : OwnS w 9 1 a ns.length c (ns.map sv) ob
  ne : ∀ g, ob = some g → g ≠ jb
def NameNew (nm : ByteArray) (ns : List ByteArray) : Prop := NameOk nm ∧ (nm = ByteArray.mk #[] ∨ nm ∉ ns)

theorem name_ok {w : World} {jb nodes caps : Nat} {ns : List ByteArray} {a : Option Addr} {c : Nat} {ob : Option Nat} {nm : ByteArray} (hJ : CAt w jb nodes caps ns a c ob) (hl : ns.length ≤ 100000) (hn : nm.size ≤ 140737488351232) :
    Calls Try.prog 40 #[.pointer (some ⟨jb, 0, none⟩), .string nm] w (Ret fun v w' => ∃ b, v = .bool b ∧ (b = true ↔ NameNew nm ns) ∧ Evo (jb :: ob.toList) w w' ∧
      (b = true → ∃ a' c' ob', CAt w' jb nodes caps (ns ++ [nm]) a' c' ob' ∧ (ob' = ob ∨ ∃ g, ob' = some g ∧ w.heap.size ≤ g))) := by
  obtain ⟨hB, hO, hne⟩ := hJ
  have hAJN : Apart (some jb) ob := fun g h1 h2 => by cases h1; exact hne jb h2 rfl
  have hlt := blk_lt hB
  refine calls_of_cw (N := 51) Try.func40 rfl rfl rfl ?_
  refine cw_seq ?_
  refine cw_region ?_
  refine wl_a ?_
  refine wl_nil (nrm_then ?_)
  refine cw_seq ?_
  refine cw_seq ?_
  refine cw_region ?_
  refine wl_a ?_
  refine wl_nil (nrm_then ?_)
  refine cw_block ?_
  refine cw_loop (α := Nat) (0) (fun k => [(5, .int .i64 (k : Nat))]) [(0, _), (1, _)] (fun k wr => Evo [] w wr ∧ (k ≤ nm.size ∧ ∀ j, j < k → wordN (sb nm j))) (fun k => nm.size - k) ⟨rfl, trivial⟩ ⟨rfl, rfl, trivial⟩ ⟨Evo.refl _ _, ⟨Nat.zero_le _, fun j h => by omega⟩⟩ ?_
  rintro k wr1 ⟨hV2, ⟨hk, hok⟩⟩
  show CW _ _ _ _ [(5, _), (0, _), (1, _)] _
  have hE3 := (Evo.refl (jb :: ob.toList) w).then hV2
  have hB4 := hV2.blk0 hB
  have hO5 := hO.evo0 hV2
  refine cw_seq ?_
  refine cw_seq ?_
  refine cw_region ?_
  refine wl_m ?_
  refine wl_m ?_
  refine wl_val rfl (ex_len_str rfl Try.underlying9 rfl) ?_
  refine wl_val rfl (ex_lss rfl rfl) ?_
  refine wl_nil (nrm_then ?_)
  refine cw_if rfl (fun hc10 => ?_) (fun hc10 => ?_)
  ·skip
   have hk' : k < nm.size := by omega
   refine cw_skip (nrm_then ?_)
   refine cw_seq ?_
   refine cw_block ?_
   refine cw_seq ?_
   refine cw_region ?_
   refine wl_m ?_
   refine wl_m ?_
   refine wl_val rfl (ex_sidx (n := k) rfl rfl Try.underlying9 rfl (by omega)) ?_
   refine wl_val rfl (ex_convF rfl Try.underlying5 Try.underlying21 (by have := sb_lt nm k; simp [IntKind.min, IntKind.max, IntKind.signed, IntKind.bits] <;> omega) (by have := sb_lt nm k; simp [IntKind.min, IntKind.max, IntKind.signed, IntKind.bits] <;> omega)) ?_
   refine wl_call1 (vs := [_]) Try.goes59 rfl (wordRune_ok (sb nm k)) rfl ?_
   rintro _ w6 ⟨rfl, hw7⟩
   have hE8 := hE3.then hw7
   have hE9 := hV2.then hw7
   have hB10 := hw7.blk0 hB4
   have hO11 := hO5.evo0 hw7
   refine wl_val rfl (ex_not rfl) ?_
   refine wl_nil (nrm_then ?_)
   refine cw_if rfl (fun hc18 => ?_) (fun hc18 => ?_)
   ·skip
    refine cw_seq ?_
    refine cw_region ?_
    refine wl_a ?_
    refine wl_nil (nrm_then ?_)
    refine cw_ret (ret_block (ret_then (ret_then (ret_block (ret_then (body_ret1 rfl rfl ?_))))))
    exact ⟨false, rfl, by simp only [Bool.false_eq_true, false_iff]; exact fun h => hc18 (h.1 k hk'), hE8, fun h => by cases h⟩
   ·skip
    refine cw_skip (nrm_block (nrm_then ?_))
    refine cw_region ?_
    refine wl_m ?_
    refine wl_val rfl (ex_add_i64 rfl rfl (by omega) (by omega)) ?_
    refine wl_a ?_
    refine wl_nil (nrm_same ?_)
    refine ⟨k + 1, ?_, ⟨rfl, trivial⟩, ⟨rfl, rfl, trivial⟩, hE9, ?_⟩
    · omega
    ·skip
     refine ⟨by omega, fun j hj => ?_⟩
     by_cases e : j < k
     · exact hok j e
     · obtain rfl : j = k := by omega
       exact Classical.not_not.1 hc18
  ·skip
   refine cw_exit (ex_then (ex_then (ex_here (nrm_then ?_))))
   refine cw_seq ?_
   refine cw_seq ?_
   refine cw_region ?_
   refine wl_a ?_
   refine wl_nil (nrm_then ?_)
   refine cw_block ?_
   refine cw_loop (α := Nat) (0) (fun l => [(6, .int .i64 (l : Nat))]) [(0, _), (1, _)] (fun l wr => Evo [] wr1 wr ∧ (l ≤ ns.length ∧ ∀ j (hj : j < ns.length), j < l → nm = ByteArray.mk #[] ∨ ¬ ns[j] = nm)) (fun l => ns.length - l) ⟨rfl, trivial⟩ ⟨rfl, rfl, trivial⟩ ⟨Evo.refl _ _, ⟨Nat.zero_le _, fun j _ h => by omega⟩⟩ ?_
   rintro l wr12 ⟨hV13, ⟨hl2, hno⟩⟩
   show CW _ _ _ _ [(6, _), (0, _), (1, _)] _
   have hE14 := hE3.then hV13
   have hE15 := hV2.then hV13
   have hB16 := hV13.blk0 hB4
   have hO17 := hO5.evo0 hV13
   refine cw_seq ?_
   refine cw_seq ?_
   refine cw_region ?_
   refine wl_m ?_
   refine wl_m ?_
   refine wl_val rfl (ex_nilCheck rfl) ?_
   refine wl_val rfl (ex_fieldAddr rfl Try.fld56_2) ?_
   refine wl_val rfl (ex_load1 rfl Try.agg27 (cell_nth hB16 rfl)) ?_
   refine wl_val rfl (ex_len_slice rfl Try.underlying27 rfl) ?_
   refine wl_val rfl (ex_lss rfl rfl) ?_
   refine wl_nil (nrm_then ?_)
   refine cw_if rfl (fun hc25 => ?_) (fun hc25 => ?_)
   ·skip
    have hl' : l < ns.length := by omega
    obtain ⟨gN, haN, hcN⟩ := own_strs hO17 (by omega)
    refine cw_skip (nrm_then ?_)
    refine cw_seq ?_
    refine cw_block ?_
    refine cw_seq ?_
    refine cw_region ?_
    refine wl_m ?_
    refine wl_val rfl (ex_neqs rfl rfl) ?_
    refine wl_m ?_
    refine wl_split (t := 30) rfl (fun hs30 => ?_) (fun hs30 => ?_)
    ·skip
     refine wl_g ?_
     refine wl_m ?_
     refine wl_g ?_
     refine wl_val rfl (ex_nilCheck rfl) ?_
     refine wl_g ?_
     refine wl_val rfl (ex_fieldAddr rfl Try.fld56_2) ?_
     refine wl_g ?_
     refine wl_val rfl (ex_load1 rfl Try.agg27 (cell_nth hB16 rfl)) ?_
     refine wl_g ?_
     refine wl_m ?_
     refine wl_g ?_
     refine wl_val rfl (ex_indexAddr (n := l) (by rw [haN]; rfl) rfl Try.elem27 (by omega)) ?_
     refine wl_g ?_
     refine wl_val rfl (ex_load1 rfl Try.agg9 (hcN l (by omega))) ?_
     refine wl_g ?_
     refine wl_m ?_
     refine wl_g ?_
     refine wl_val rfl (ex_eqs rfl rfl) ?_
     refine wl_pt ?_
     refine wl_nil (nrm_then ?_)
     refine cw_if rfl (fun hc40 => ?_) (fun hc40 => ?_)
     ·skip
      refine cw_seq ?_
      refine cw_region ?_
      refine wl_a ?_
      refine wl_nil (nrm_then ?_)
      refine cw_ret (ret_block (ret_then (ret_then (ret_block (ret_then (body_ret1 rfl rfl ?_))))))
      exact ⟨false, rfl, by simp only [Bool.false_eq_true, false_iff]; exact fun h => by rcases h.2 with h1 | h1; exact hs30 h1; exact h1 (hc40 ▸ List.getElem_mem hl'), hE14, fun h => by cases h⟩
     ·skip
      refine cw_skip (nrm_block (nrm_then ?_))
      refine cw_region ?_
      refine wl_m ?_
      refine wl_val rfl (ex_add_i64 rfl rfl (by omega) (by omega)) ?_
      refine wl_a ?_
      refine wl_nil (nrm_same ?_)
      refine ⟨l + 1, ?_, ⟨rfl, trivial⟩, ⟨rfl, rfl, trivial⟩, hV13, ?_⟩
      · omega
      ·skip
       refine ⟨by omega, fun j hj hjl => ?_⟩
       by_cases e : j < l
       · exact hno j hj e
       · obtain rfl : j = l := by omega
         first | exact .inl (Classical.not_not.1 hs30) | exact .inr hc40
    ·skip
     refine wl_n ?_
     refine wl_n ?_
     refine wl_n ?_
     refine wl_n ?_
     refine wl_n ?_
     refine wl_n ?_
     refine wl_n ?_
     refine wl_n ?_
     refine wl_n ?_
     refine wl_pf ?_
     refine wl_nil (nrm_then ?_)
     refine cw_false rfl ?_
     refine cw_skip (nrm_block (nrm_then ?_))
     refine cw_region ?_
     refine wl_m ?_
     refine wl_val rfl (ex_add_i64 rfl rfl (by omega) (by omega)) ?_
     refine wl_a ?_
     refine wl_nil (nrm_same ?_)
     refine ⟨l + 1, ?_, ⟨rfl, trivial⟩, ⟨rfl, rfl, trivial⟩, hV13, ?_⟩
     · omega
     ·skip
      refine ⟨by omega, fun j hj hjl => ?_⟩
      by_cases e : j < l
      · exact hno j hj e
      · exact .inl (Classical.not_not.1 hs30)
   ·skip
    refine cw_exit (ex_then (ex_then (ex_here (nrm_then ?_))))
    refine cw_seq ?_
    refine cw_region ?_
    refine wl_m ?_
    refine wl_m ?_
    refine wl_val rfl (ex_nilCheck rfl) ?_
    refine wl_val rfl (ex_fieldAddr rfl Try.fld56_2) ?_
    refine wl_val rfl (ex_load1 rfl Try.agg27 (cell_nth hB16 rfl)) ?_
    refine wl_m ?_
    refine wl_bslice (vs := [_]) rfl Try.slice27 rfl rfl rfl rfl fun b18 w19 hO20 hs21 hw22 => ?_
    have hA23 := Apart.new (Lt.blk hB16) hs21
    have hA24 := Apart.new (Lt.own hO17) hs21
    have hG25 := Ge.new hE14 hs21
    have hG26 := Ge.new hE15 hs21
    have hG27 := Ge.new hV13 hs21
    have hE28 := hE14.then hw22
    have hE29 := hE15.then hw22
    have hE30 := hV13.then hw22
    have hB31 := hw22.blk0 hB16
    have hO32 := hO17.evo0 hw22
    have hszg := (hE28).size
    refine wl_append rfl rfl rfl rfl Try.app27_27 hO32 (Src.ofOwn hO20 ⟨by first | rfl | assumption, trivial⟩) (by omega) fun a2 c2 w35 ob2 hO2 hw38 hob39 => ?_
    have hA40 := hAJN.app (Lt.blk hB31) hob39
    have hA41 := hA24.symm.app (Lt.own hO20) hob39
    have hE42 := hE28.step hw38 (fun y hy => .inl (List.mem_cons_of_mem _ hy))
    have hB45 := hw38.blk hB31 hAJN.nmem
    have hO46 := hO20.evo hw38 hA24.symm.own
    have hob2 : ob2 = ob ∨ ∃ g, ob2 = some g ∧ w.heap.size ≤ g := hob39.imp id (fun ⟨g, h1, h2⟩ => ⟨g, h1, Nat.le_trans hszg h2⟩)
    refine wl_val rfl (ex_nilCheck rfl) ?_
    refine wl_val rfl (ex_fieldAddr rfl Try.fld56_2) ?_
    refine wl_store1 rfl rfl (by first | rfl | assumption) Try.size27 hB45 rfl fun w47 hB48 hw49 => ?_
    have hE50 := hE42.step hw49 (fun y hy => .inl (by rw [List.mem_singleton.1 hy]; exact List.mem_cons_self ..))
    have hO51 := hO46.evo hw49 hA23.symm.own1
    have hO52 := hO2.evo hw49 hA40.symm.own1
    try simp only [List.setIfInBounds_toArray, List.set_cons_zero, List.set_cons_succ, Nat.reduceAdd, Nat.zero_add, Nat.add_zero] at hB48
    refine wl_nil (nrm_then ?_)
    refine cw_seq ?_
    refine cw_region ?_
    refine wl_a ?_
    refine wl_nil (nrm_then ?_)
    refine cw_ret (body_ret1 rfl rfl ?_)
    refine ⟨true, rfl, ?_, hE50, fun _ => ⟨a2, c2, ob2, ⟨?_, ?_, own_new hne hlt hob2⟩, hob2⟩⟩
    · simp only [true_iff]; exact ⟨fun j hj => hok j (by omega), name_new (fun j hj => hno j hj (by omega))⟩
    · simp only [List.length_append, List.length_cons, List.length_nil]; exact hB48
    · rw [List.map_append, List.length_append]; exact hO52

end Go.Proofs.Ytgboffefbpligaa
