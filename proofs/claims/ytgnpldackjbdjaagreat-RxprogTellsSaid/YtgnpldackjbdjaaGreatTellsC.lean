/- Tells: part 3 of 6 of what the law rests on. -/
import Derived.Test.YtgnpldackjbdjaaGreatTellsB
namespace Go.Proofs.YtgnpldackjbdjaaGreat
open Go.Proofs
open Go.W Go.RowKit
attribute [local irreducible] Decidable.decide
set_option linter.unusedSimpArgs false
set_option linter.unusedVariables false
theorem Tryz.fld145_2 : fieldB Tryz.prog 145 2 = some 2 := by kernel_rfl
theorem Tryz.goes168 : Goes Tryz.prog 168 := ⟨_, Tryz.func168, by kernel_rfl, by kernel_rfl⟩
theorem brackets_ok {w : World} (k a : Int) : Calls Tryz.prog 131 #[.int .i64 k, .int .i64 a] w (Ret fun v w' => v = .bool (decide (Brk a k)) ∧ Evo [] w w') := by
  refine calls_of_cw (N := 38) Tryz.func131 rfl rfl rfl ?_; refine cw_seq ?_; refine cw_region ?_; refine wl_a ?_; refine wl_nil (nrm_then ?_); refine cw_seq ?_; refine cw_seq ?_; refine cw_region ?_; refine wl_m ?_; refine wl_nil (nrm_then ?_); refine cw_block ?_; refine cw_seq ?_; refine cw_region ?_; refine wl_val rfl (ex_eql rfl rfl) ?_; refine wl_a ?_; refine wl_nil (nrm_then ?_); refine cw_if rfl (fun hc6 => ?_) (fun hc6 => ?_)
  ·skip
   refine cw_seq ?_; refine cw_region ?_; refine wl_m ?_; refine wl_val rfl (ex_eql rfl rfl) ?_; refine wl_a ?_; refine wl_nil (nrm_then ?_); refine cw_ret (ret_block (ret_then (body_ret1 rfl rfl ?_))); refine ⟨congrArg Value.bool (Bool.eq_iff_iff.2 ?_), (Evo.refl [] w)⟩
   simp only [decide_eq_true_eq, Bool.false_eq_true, Bool.true_eq_false, true_iff, false_iff, eq_self, iff_true]; unfold Brk; omega
  ·skip
   refine cw_seq ?_; refine cw_region ?_; refine wl_val rfl (ex_eql rfl rfl) ?_; refine wl_a ?_; refine wl_nil (nrm_then ?_); refine cw_if rfl (fun hc10 => ?_) (fun hc10 => ?_)
   ·skip
    refine cw_seq ?_; refine cw_region ?_; refine wl_m ?_; refine wl_val rfl (ex_eql rfl rfl) ?_; refine wl_m ?_; refine wl_split (t := 14) rfl (fun hs14 => ?_) (fun hs14 => ?_)
    ·skip
     refine wl_n ?_; refine wl_n ?_; refine wl_pt ?_; refine wl_m ?_; refine wl_n ?_; refine wl_n ?_; refine wl_pt ?_; refine wl_a ?_; refine wl_nil (nrm_then ?_); refine cw_ret (ret_block (ret_then (body_ret1 rfl rfl ?_))); refine ⟨congrArg Value.bool (Bool.eq_iff_iff.2 ?_), (Evo.refl [] w)⟩
     simp only [decide_eq_true_eq, Bool.false_eq_true, Bool.true_eq_false, true_iff, false_iff, eq_self, iff_true]; unfold Brk; omega
    ·skip
     refine wl_g ?_; refine wl_m ?_; refine wl_g ?_; refine wl_val rfl (ex_eql rfl rfl) ?_; refine wl_pf ?_; refine wl_m ?_; refine wl_split (t := 18) rfl (fun hs18 => ?_) (fun hs18 => ?_)
     ·skip
      refine wl_n ?_; refine wl_n ?_; refine wl_pt ?_; refine wl_a ?_; refine wl_nil (nrm_then ?_); refine cw_ret (ret_block (ret_then (body_ret1 rfl rfl ?_))); refine ⟨congrArg Value.bool (Bool.eq_iff_iff.2 ?_), (Evo.refl [] w)⟩
      simp only [decide_eq_true_eq, Bool.false_eq_true, Bool.true_eq_false, true_iff, false_iff, eq_self, iff_true]; unfold Brk; omega
     ·skip
      refine wl_g ?_; refine wl_m ?_; refine wl_g ?_; refine wl_val rfl (ex_eql rfl rfl) ?_; refine wl_pf ?_; refine wl_a ?_; refine wl_nil (nrm_then ?_); refine cw_ret (ret_block (ret_then (body_ret1 rfl rfl ?_))); refine ⟨congrArg Value.bool (Bool.eq_iff_iff.2 ?_), (Evo.refl [] w)⟩
      simp only [decide_eq_true_eq, Bool.false_eq_true, Bool.true_eq_false, true_iff, false_iff, eq_self, iff_true]; unfold Brk; omega
   ·skip
    refine cw_seq ?_; refine cw_region ?_; refine wl_val rfl (ex_eql rfl rfl) ?_; refine wl_a ?_; refine wl_nil (nrm_then ?_); refine cw_if rfl (fun hc22 => ?_) (fun hc22 => ?_)
    ·skip
     refine cw_seq ?_; refine cw_region ?_; refine wl_m ?_; refine wl_val rfl (ex_eql rfl rfl) ?_; refine wl_m ?_; refine wl_split (t := 26) rfl (fun hs26 => ?_) (fun hs26 => ?_)
     ·skip
      refine wl_n ?_; refine wl_n ?_; refine wl_pt ?_; refine wl_m ?_; refine wl_n ?_; refine wl_n ?_; refine wl_pt ?_; refine wl_m ?_; refine wl_n ?_; refine wl_n ?_; refine wl_pt ?_; refine wl_a ?_; refine wl_nil (nrm_then ?_); refine cw_ret (ret_block (ret_then (body_ret1 rfl rfl ?_))); refine ⟨congrArg Value.bool (Bool.eq_iff_iff.2 ?_), (Evo.refl [] w)⟩
      simp only [decide_eq_true_eq, Bool.false_eq_true, Bool.true_eq_false, true_iff, false_iff, eq_self, iff_true]; unfold Brk; omega
     ·skip
      refine wl_g ?_; refine wl_m ?_; refine wl_g ?_; refine wl_val rfl (ex_eql rfl rfl) ?_; refine wl_pf ?_; refine wl_m ?_; refine wl_split (t := 30) rfl (fun hs30 => ?_) (fun hs30 => ?_)
      ·skip
       refine wl_n ?_; refine wl_n ?_; refine wl_pt ?_; refine wl_m ?_; refine wl_n ?_; refine wl_n ?_; refine wl_pt ?_; refine wl_a ?_; refine wl_nil (nrm_then ?_); refine cw_ret (ret_block (ret_then (body_ret1 rfl rfl ?_))); refine ⟨congrArg Value.bool (Bool.eq_iff_iff.2 ?_), (Evo.refl [] w)⟩
       simp only [decide_eq_true_eq, Bool.false_eq_true, Bool.true_eq_false, true_iff, false_iff, eq_self, iff_true]; unfold Brk; omega
      ·skip
       refine wl_g ?_; refine wl_m ?_; refine wl_g ?_; refine wl_val rfl (ex_eql rfl rfl) ?_; refine wl_pf ?_; refine wl_m ?_; refine wl_split (t := 34) rfl (fun hs34 => ?_) (fun hs34 => ?_)
       ·skip
        refine wl_n ?_; refine wl_n ?_; refine wl_pt ?_; refine wl_a ?_; refine wl_nil (nrm_then ?_); refine cw_ret (ret_block (ret_then (body_ret1 rfl rfl ?_))); refine ⟨congrArg Value.bool (Bool.eq_iff_iff.2 ?_), (Evo.refl [] w)⟩
        simp only [decide_eq_true_eq, Bool.false_eq_true, Bool.true_eq_false, true_iff, false_iff, eq_self, iff_true]; unfold Brk; omega
       ·skip
        refine wl_g ?_; refine wl_m ?_; refine wl_g ?_; refine wl_val rfl (ex_eql rfl rfl) ?_; refine wl_pf ?_; refine wl_a ?_; refine wl_nil (nrm_then ?_); refine cw_ret (ret_block (ret_then (body_ret1 rfl rfl ?_))); refine ⟨congrArg Value.bool (Bool.eq_iff_iff.2 ?_), (Evo.refl [] w)⟩
        simp only [decide_eq_true_eq, Bool.false_eq_true, Bool.true_eq_false, true_iff, false_iff, eq_self, iff_true]; unfold Brk; omega
    ·skip
     refine cw_skip (nrm_block (nrm_then ?_)); refine cw_seq ?_; refine cw_region ?_; refine wl_a ?_; refine wl_nil (nrm_then ?_); refine cw_ret (body_ret1 rfl rfl ?_); refine ⟨congrArg Value.bool (Bool.eq_iff_iff.2 ?_), (Evo.refl [] w)⟩
     simp only [decide_eq_true_eq, Bool.false_eq_true, Bool.true_eq_false, true_iff, false_iff, eq_self, iff_true]; unfold Brk; omega
structure BareP (x : Rx) : Prop where
  zg : x.kind = 3 ∨ (x.ranges.length : Int) = 0
  zk : x.kind = 4 ∨ x.kind = 5 ∨ x.kind = 6 ∨ x.kind = 7 ∨ (x.kids.length : Int) = 0
  zr : x.kind = 2 ∨ x.r = 0
  zm1 : x.kind = 6 ∨ x.min = 0
  zm2 : x.kind = 6 ∨ x.max = 0
  zl : x.kind = 6 ∨ x.lazy = false
  zc : x.kind = 7 ∨ x.cap = 0
  zn : x.kind = 7 ∨ x.name = ByteArray.mk #[]
theorem bareP_iff (x : Rx) : BareP x ↔ (x.kind = 3 ∨ (x.ranges.length : Int) = 0) ∧ (x.kind = 4 ∨ x.kind = 5 ∨ x.kind = 6 ∨ x.kind = 7 ∨ (x.kids.length : Int) = 0) ∧ (x.kind = 2 ∨ x.r = 0) ∧ (x.kind = 6 ∨ x.min = 0) ∧ (x.kind = 6 ∨ x.max = 0) ∧ (x.kind = 6 ∨ x.lazy = false) ∧ (x.kind = 7 ∨ x.cap = 0) ∧ (x.kind = 7 ∨ x.name = ByteArray.mk #[]) :=
  ⟨fun h => ⟨h.zg, h.zk, h.zr, h.zm1, h.zm2, h.zl, h.zc, h.zn⟩, fun ⟨a, b, c, d, e, f, g, h⟩ => ⟨a, b, c, d, e, f, g, h⟩⟩
theorem bare_ok {n : Nat} {X : List Nat} {w : World} {vs : List Value} {t : Rx} (hx : RRx n X w vs t) : Calls Tryz.prog 132 #[.agg vs.toArray] w (Ret fun v w' => ∃ b, v = .bool b ∧ (b = true ↔ BareP t) ∧ Evo [] w w') := by
  obtain ⟨m, ra, rc, ka, kc, hm, rfl, hrg, hk, bl1, bl2, bl3⟩ := hx.get; refine calls_of_cw (N := 82) Tryz.func132 rfl rfl rfl ?_; refine cw_seq ?_; refine cw_region ?_; refine wl_boxA rfl rfl fun b1 w2 hB3 hs4 hw5 => ?_; have hG6 := Ge.new (Evo.refl [] w) hs4; have hE7 := (Evo.refl [] w).then hw5; refine wl_a ?_; refine wl_nil (nrm_then ?_); refine cw_seq ?_; refine cw_region ?_; refine wl_val rfl (ex_fieldAddr rfl Tryz.fld25_0) ?_; refine wl_val rfl (ex_load1 rfl Tryz.agg3 (cell_nth hB3 rfl)) ?_; refine wl_a ?_; refine wl_nil (nrm_then ?_); refine cw_seq ?_; refine cw_cut (α := Bool) (fun z => [(4, .bool z)]) [(1, _), (2, _), (3, _)] (fun z wr => Evo [] w2 wr ∧ (z = true ↔ (t.kind = 3 ∨ (t.ranges.length : Int) = 0) ∧ (t.kind = 4 ∨ t.kind = 5 ∨ t.kind = 6 ∨ t.kind = 7 ∨ (t.kids.length : Int) = 0))) ⟨rfl, rfl, rfl, trivial⟩ ?_ ?_
  ·skip
   refine cw_region ?_; refine wl_m ?_; refine wl_val rfl (ex_eql rfl rfl) ?_; refine wl_m ?_; refine wl_split (t := 10) rfl (fun hs10 => ?_) (fun hs10 => ?_)
   ·skip
    refine wl_n ?_; refine wl_n ?_; refine wl_n ?_; refine wl_n ?_; refine wl_pt ?_; refine wl_m ?_; refine wl_g ?_; refine wl_m ?_; refine wl_g ?_; refine wl_val rfl (ex_eql rfl rfl) ?_; refine wl_g ?_; refine wl_m ?_; refine wl_split (t := 19) rfl (fun hs19 => ?_) (fun hs19 => ?_)
    ·skip
     refine wl_n ?_; refine wl_n ?_; refine wl_g ?_; refine wl_pt ?_; refine wl_g ?_; refine wl_m ?_; refine wl_n ?_; refine wl_n ?_; refine wl_g ?_; refine wl_pt ?_; refine wl_g ?_; refine wl_m ?_; refine wl_n ?_; refine wl_n ?_; refine wl_g ?_; refine wl_pt ?_; refine wl_g ?_; refine wl_m ?_; refine wl_n ?_; refine wl_n ?_; refine wl_n ?_; refine wl_n ?_; refine wl_g ?_; refine wl_pt ?_; refine wl_pt ?_; refine wl_a ?_; refine wl_nil (nrm_same ?_); refine ⟨true, ⟨rfl, trivial⟩, ⟨rfl, rfl, rfl, trivial⟩, (Evo.refl [] w2), ?_⟩; simp only [decide_eq_true_eq, Bool.false_eq_true, true_iff, false_iff, Bool.not_eq_true'] at *
     grind
    ·skip
     refine wl_g ?_; refine wl_m ?_; refine wl_g ?_; refine wl_val rfl (ex_eql rfl rfl) ?_; refine wl_g ?_; refine wl_pf ?_; refine wl_g ?_; refine wl_m ?_; refine wl_split (t := 23) rfl (fun hs23 => ?_) (fun hs23 => ?_)
     ·skip
      refine wl_n ?_; refine wl_n ?_; refine wl_g ?_; refine wl_pt ?_; refine wl_g ?_; refine wl_m ?_; refine wl_n ?_; refine wl_n ?_; refine wl_g ?_; refine wl_pt ?_; refine wl_g ?_; refine wl_m ?_; refine wl_n ?_; refine wl_n ?_; refine wl_n ?_; refine wl_n ?_; refine wl_g ?_; refine wl_pt ?_; refine wl_pt ?_; refine wl_a ?_; refine wl_nil (nrm_same ?_); refine ⟨true, ⟨rfl, trivial⟩, ⟨rfl, rfl, rfl, trivial⟩, (Evo.refl [] w2), ?_⟩; simp only [decide_eq_true_eq, Bool.false_eq_true, true_iff, false_iff, Bool.not_eq_true'] at *
      grind
     ·skip
      refine wl_g ?_; refine wl_m ?_; refine wl_g ?_; refine wl_val rfl (ex_eql rfl rfl) ?_; refine wl_g ?_; refine wl_pf ?_; refine wl_g ?_; refine wl_m ?_; refine wl_split (t := 27) rfl (fun hs27 => ?_) (fun hs27 => ?_)
      ·skip
       refine wl_n ?_; refine wl_n ?_; refine wl_g ?_; refine wl_pt ?_; refine wl_g ?_; refine wl_m ?_; refine wl_n ?_; refine wl_n ?_; refine wl_n ?_; refine wl_n ?_; refine wl_g ?_; refine wl_pt ?_; refine wl_pt ?_; refine wl_a ?_; refine wl_nil (nrm_same ?_); refine ⟨true, ⟨rfl, trivial⟩, ⟨rfl, rfl, rfl, trivial⟩, (Evo.refl [] w2), ?_⟩; simp only [decide_eq_true_eq, Bool.false_eq_true, true_iff, false_iff, Bool.not_eq_true'] at *
       grind
      ·skip
       refine wl_g ?_; refine wl_m ?_; refine wl_g ?_; refine wl_val rfl (ex_eql rfl rfl) ?_; refine wl_g ?_; refine wl_pf ?_; refine wl_g ?_; refine wl_m ?_; refine wl_split (t := 31) rfl (fun hs31 => ?_) (fun hs31 => ?_)
       ·skip
        refine wl_n ?_; refine wl_n ?_; refine wl_n ?_; refine wl_n ?_; refine wl_g ?_; refine wl_pt ?_; refine wl_pt ?_; refine wl_a ?_; refine wl_nil (nrm_same ?_); refine ⟨true, ⟨rfl, trivial⟩, ⟨rfl, rfl, rfl, trivial⟩, (Evo.refl [] w2), ?_⟩; simp only [decide_eq_true_eq, Bool.false_eq_true, true_iff, false_iff, Bool.not_eq_true'] at *
        grind
       ·skip
        refine wl_g ?_; refine wl_val rfl (ex_fieldAddr rfl Tryz.fld25_8) ?_; refine wl_g ?_; refine wl_val rfl (ex_load1 rfl Tryz.agg23 (cell_nth hB3 rfl)) ?_; refine wl_g ?_; refine wl_val rfl (ex_len_slice rfl Tryz.underlying23 rfl) ?_; refine wl_g ?_; refine wl_val rfl (ex_eql rfl rfl) ?_; refine wl_g ?_; refine wl_pf ?_; refine wl_pt ?_; refine wl_a ?_; refine wl_nil (nrm_same ?_); refine ⟨(decide ((t.kids.length : Int) = 0)), ⟨rfl, trivial⟩, ⟨rfl, rfl, rfl, trivial⟩, (Evo.refl [] w2), ?_⟩; simp only [decide_eq_true_eq, Bool.false_eq_true, true_iff, false_iff, Bool.not_eq_true'] at *
        grind
   ·skip
    refine wl_g ?_; refine wl_val rfl (ex_fieldAddr rfl Tryz.fld25_2) ?_; refine wl_g ?_; refine wl_val rfl (ex_load1 rfl Tryz.agg22 (cell_nth hB3 rfl)) ?_; refine wl_g ?_; refine wl_val rfl (ex_len_slice rfl Tryz.underlying22 rfl) ?_; refine wl_g ?_; refine wl_val rfl (ex_eql rfl rfl) ?_; refine wl_pf ?_; refine wl_m ?_; refine wl_split (t := 16) rfl (fun hs16 => ?_) (fun hs16 => ?_)
    ·skip
     refine wl_g ?_; refine wl_m ?_; refine wl_g ?_; refine wl_val rfl (ex_eql rfl rfl) ?_; refine wl_g ?_; refine wl_m ?_; refine wl_split (t := 19) rfl (fun hs19 => ?_) (fun hs19 => ?_)
     ·skip
      refine wl_n ?_; refine wl_n ?_; refine wl_g ?_; refine wl_pt ?_; refine wl_g ?_; refine wl_m ?_; refine wl_n ?_; refine wl_n ?_; refine wl_g ?_; refine wl_pt ?_; refine wl_g ?_; refine wl_m ?_; refine wl_n ?_; refine wl_n ?_; refine wl_g ?_; refine wl_pt ?_; refine wl_g ?_; refine wl_m ?_; refine wl_n ?_; refine wl_n ?_; refine wl_n ?_; refine wl_n ?_; refine wl_g ?_; refine wl_pt ?_; refine wl_pt ?_; refine wl_a ?_; refine wl_nil (nrm_same ?_); refine ⟨true, ⟨rfl, trivial⟩, ⟨rfl, rfl, rfl, trivial⟩, (Evo.refl [] w2), ?_⟩; simp only [decide_eq_true_eq, Bool.false_eq_true, true_iff, false_iff, Bool.not_eq_true'] at *
      grind
     ·skip
      refine wl_g ?_; refine wl_m ?_; refine wl_g ?_; refine wl_val rfl (ex_eql rfl rfl) ?_; refine wl_g ?_; refine wl_pf ?_; refine wl_g ?_; refine wl_m ?_; refine wl_split (t := 23) rfl (fun hs23 => ?_) (fun hs23 => ?_)
      ·skip
       refine wl_n ?_; refine wl_n ?_; refine wl_g ?_; refine wl_pt ?_; refine wl_g ?_; refine wl_m ?_; refine wl_n ?_; refine wl_n ?_; refine wl_g ?_; refine wl_pt ?_; refine wl_g ?_; refine wl_m ?_; refine wl_n ?_; refine wl_n ?_; refine wl_n ?_; refine wl_n ?_; refine wl_g ?_; refine wl_pt ?_; refine wl_pt ?_; refine wl_a ?_; refine wl_nil (nrm_same ?_); refine ⟨true, ⟨rfl, trivial⟩, ⟨rfl, rfl, rfl, trivial⟩, (Evo.refl [] w2), ?_⟩; simp only [decide_eq_true_eq, Bool.false_eq_true, true_iff, false_iff, Bool.not_eq_true'] at *
       grind
      ·skip
       refine wl_g ?_; refine wl_m ?_; refine wl_g ?_; refine wl_val rfl (ex_eql rfl rfl) ?_; refine wl_g ?_; refine wl_pf ?_; refine wl_g ?_; refine wl_m ?_; refine wl_split (t := 27) rfl (fun hs27 => ?_) (fun hs27 => ?_)
       ·skip
        refine wl_n ?_; refine wl_n ?_; refine wl_g ?_; refine wl_pt ?_; refine wl_g ?_; refine wl_m ?_; refine wl_n ?_; refine wl_n ?_; refine wl_n ?_; refine wl_n ?_; refine wl_g ?_; refine wl_pt ?_; refine wl_pt ?_; refine wl_a ?_; refine wl_nil (nrm_same ?_); refine ⟨true, ⟨rfl, trivial⟩, ⟨rfl, rfl, rfl, trivial⟩, (Evo.refl [] w2), ?_⟩; simp only [decide_eq_true_eq, Bool.false_eq_true, true_iff, false_iff, Bool.not_eq_true'] at *
        grind
       ·skip
        refine wl_g ?_; refine wl_m ?_; refine wl_g ?_; refine wl_val rfl (ex_eql rfl rfl) ?_; refine wl_g ?_; refine wl_pf ?_; refine wl_g ?_; refine wl_m ?_; refine wl_split (t := 31) rfl (fun hs31 => ?_) (fun hs31 => ?_)
        ·skip
         refine wl_n ?_; refine wl_n ?_; refine wl_n ?_; refine wl_n ?_; refine wl_g ?_; refine wl_pt ?_; refine wl_pt ?_; refine wl_a ?_; refine wl_nil (nrm_same ?_); refine ⟨true, ⟨rfl, trivial⟩, ⟨rfl, rfl, rfl, trivial⟩, (Evo.refl [] w2), ?_⟩; simp only [decide_eq_true_eq, Bool.false_eq_true, true_iff, false_iff, Bool.not_eq_true'] at *
         grind
        ·skip
         refine wl_g ?_; refine wl_val rfl (ex_fieldAddr rfl Tryz.fld25_8) ?_; refine wl_g ?_; refine wl_val rfl (ex_load1 rfl Tryz.agg23 (cell_nth hB3 rfl)) ?_; refine wl_g ?_; refine wl_val rfl (ex_len_slice rfl Tryz.underlying23 rfl) ?_; refine wl_g ?_; refine wl_val rfl (ex_eql rfl rfl) ?_; refine wl_g ?_; refine wl_pf ?_; refine wl_pt ?_; refine wl_a ?_; refine wl_nil (nrm_same ?_); refine ⟨(decide ((t.kids.length : Int) = 0)), ⟨rfl, trivial⟩, ⟨rfl, rfl, rfl, trivial⟩, (Evo.refl [] w2), ?_⟩; simp only [decide_eq_true_eq, Bool.false_eq_true, true_iff, false_iff, Bool.not_eq_true'] at *
         grind
    ·skip
     refine wl_n ?_; refine wl_n ?_; refine wl_n ?_; refine wl_u ?_; refine wl_u ?_; refine wl_n ?_; refine wl_n ?_; refine wl_u ?_; refine wl_u ?_; refine wl_n ?_; refine wl_n ?_; refine wl_u ?_; refine wl_u ?_; refine wl_n ?_; refine wl_n ?_; refine wl_u ?_; refine wl_u ?_; refine wl_u ?_; refine wl_u ?_; refine wl_n ?_; refine wl_pf ?_; refine wl_a ?_; refine wl_nil (nrm_same ?_); refine ⟨false, ⟨rfl, trivial⟩, ⟨rfl, rfl, rfl, trivial⟩, (Evo.refl [] w2), ?_⟩; simp only [decide_eq_true_eq, Bool.false_eq_true, true_iff, false_iff, Bool.not_eq_true'] at *
     grind
  ·skip
   rintro z w8 ⟨hV9, hz⟩; refine nrm_then ?_; show CW _ _ _ _ [(4, _), (1, _), (2, _), (3, _)] _; have hE10 := hE7.then hV9; have hB11 := hV9.blk0 hB3; refine cw_seq ?_; refine cw_cut (α := Bool) (fun y => [(5, .bool y)]) [(2, _), (4, _)] (fun y wr => Evo [] w8 wr ∧ (y = true ↔ (t.kind = 2 ∨ t.r = 0) ∧ (t.kind = 6 ∨ t.min = 0) ∧ (t.kind = 6 ∨ t.max = 0) ∧ (t.kind = 6 ∨ t.lazy = false) ∧ (t.kind = 7 ∨ t.cap = 0) ∧ (t.kind = 7 ∨ t.name = ByteArray.mk #[]))) ⟨rfl, rfl, trivial⟩ ?_ ?_
   ·skip
    refine cw_region ?_; refine wl_m ?_; refine wl_val rfl (ex_eql rfl rfl) ?_; refine wl_m ?_; refine wl_split (t := 40) rfl (fun hs40 => ?_) (fun hs40 => ?_)
    ·skip
     refine wl_n ?_; refine wl_n ?_; refine wl_n ?_; refine wl_pt ?_; refine wl_m ?_; refine wl_g ?_; refine wl_m ?_; refine wl_g ?_; refine wl_val rfl (ex_eql rfl rfl) ?_; refine wl_g ?_; refine wl_m ?_; refine wl_split (t := 48) rfl (fun hs48 => ?_) (fun hs48 => ?_)
     ·skip
      refine wl_n ?_; refine wl_n ?_; refine wl_n ?_; refine wl_n ?_; refine wl_u ?_; refine wl_u ?_; refine wl_u ?_; refine wl_n ?_; refine wl_n ?_; refine wl_u ?_; refine wl_u ?_; refine wl_u ?_; refine wl_n ?_; refine wl_g ?_; refine wl_pt ?_; refine wl_pt ?_; refine wl_m ?_; refine wl_g ?_; refine wl_m ?_; refine wl_g ?_; refine wl_val rfl (ex_eql rfl rfl) ?_; refine wl_g ?_; refine wl_m ?_; refine wl_split (t := 67) rfl (fun hs67 => ?_) (fun hs67 => ?_)
      ·skip
       refine wl_n ?_; refine wl_n ?_; refine wl_n ?_; refine wl_n ?_; refine wl_u ?_; refine wl_u ?_; refine wl_u ?_; refine wl_n ?_; refine wl_g ?_; refine wl_pt ?_; refine wl_pt ?_; refine wl_a ?_; refine wl_nil (nrm_same ?_); refine ⟨true, ⟨rfl, trivial⟩, ⟨rfl, rfl, trivial⟩, (Evo.refl [] w8), ?_⟩; simp only [decide_eq_true_eq, Bool.false_eq_true, true_iff, false_iff, Bool.not_eq_true'] at *
       grind
      ·skip
       refine wl_g ?_; refine wl_val rfl (ex_fieldAddr rfl Tryz.fld25_6) ?_; refine wl_g ?_; refine wl_val rfl (ex_load1 rfl Tryz.agg3 (cell_nth hB11 rfl)) ?_; refine wl_g ?_; refine wl_val rfl (ex_eql rfl rfl) ?_; refine wl_g ?_; refine wl_m ?_; refine wl_split (t := 71) rfl (fun hs71 => ?_) (fun hs71 => ?_)
       ·skip
        refine wl_g ?_; refine wl_val rfl (ex_fieldAddr rfl Tryz.fld25_7) ?_; refine wl_g ?_; refine wl_val rfl (ex_load1 rfl Tryz.agg9 (cell_nth hB11 rfl)) ?_; refine wl_g ?_; refine wl_val rfl (ex_eqs rfl rfl) ?_; refine wl_g ?_; refine wl_pt ?_; refine wl_g ?_; refine wl_pf ?_; refine wl_pt ?_; refine wl_a ?_; refine wl_nil (nrm_same ?_); refine ⟨(decide (t.name = ByteArray.mk #[])), ⟨rfl, trivial⟩, ⟨rfl, rfl, trivial⟩, (Evo.refl [] w8), ?_⟩; simp only [decide_eq_true_eq, Bool.false_eq_true, true_iff, false_iff, Bool.not_eq_true'] at *
        grind
       ·skip
        refine wl_n ?_; refine wl_n ?_; refine wl_n ?_; refine wl_g ?_; refine wl_pf ?_; refine wl_g ?_; refine wl_pf ?_; refine wl_pt ?_; refine wl_a ?_; refine wl_nil (nrm_same ?_); refine ⟨false, ⟨rfl, trivial⟩, ⟨rfl, rfl, trivial⟩, (Evo.refl [] w8), ?_⟩; simp only [decide_eq_true_eq, Bool.false_eq_true, true_iff, false_iff, Bool.not_eq_true'] at *
        grind
     ·skip
      refine wl_g ?_; refine wl_val rfl (ex_fieldAddr rfl Tryz.fld25_3) ?_; refine wl_g ?_; refine wl_val rfl (ex_load1 rfl Tryz.agg3 (cell_nth hB11 rfl)) ?_; refine wl_g ?_; refine wl_val rfl (ex_eql rfl rfl) ?_; refine wl_g ?_; refine wl_m ?_; refine wl_split (t := 52) rfl (fun hs52 => ?_) (fun hs52 => ?_)
      ·skip
       refine wl_g ?_; refine wl_val rfl (ex_fieldAddr rfl Tryz.fld25_4) ?_; refine wl_g ?_; refine wl_val rfl (ex_load1 rfl Tryz.agg3 (cell_nth hB11 rfl)) ?_; refine wl_g ?_; refine wl_val rfl (ex_eql rfl rfl) ?_; refine wl_g ?_; refine wl_pt ?_; refine wl_g ?_; refine wl_m ?_; refine wl_split (t := 57) rfl (fun hs57 => ?_) (fun hs57 => ?_)
       ·skip
        refine wl_g ?_; refine wl_val rfl (ex_fieldAddr rfl Tryz.fld25_5) ?_; refine wl_g ?_; refine wl_val rfl (ex_load1 rfl Tryz.agg4 (cell_nth hB11 rfl)) ?_; refine wl_g ?_; refine wl_val rfl (ex_notb rfl) ?_; refine wl_g ?_; refine wl_pt ?_; refine wl_g ?_; refine wl_pf ?_; refine wl_pt ?_; refine wl_m ?_; refine wl_splitb (t := 64) rfl (fun hs64 => ?_) (fun hs64 => ?_)
        ·skip
         refine wl_g ?_; refine wl_m ?_; refine wl_g ?_; refine wl_val rfl (ex_eql rfl rfl) ?_; refine wl_g ?_; refine wl_m ?_; refine wl_split (t := 67) rfl (fun hs67 => ?_) (fun hs67 => ?_)
         ·skip
          refine wl_n ?_; refine wl_n ?_; refine wl_n ?_; refine wl_n ?_; refine wl_u ?_; refine wl_u ?_; refine wl_u ?_; refine wl_n ?_; refine wl_g ?_; refine wl_pt ?_; refine wl_pt ?_; refine wl_a ?_; refine wl_nil (nrm_same ?_); refine ⟨true, ⟨rfl, trivial⟩, ⟨rfl, rfl, trivial⟩, (Evo.refl [] w8), ?_⟩; simp only [decide_eq_true_eq, Bool.false_eq_true, true_iff, false_iff, Bool.not_eq_true'] at *
          grind
         ·skip
          refine wl_g ?_; refine wl_val rfl (ex_fieldAddr rfl Tryz.fld25_6) ?_; refine wl_g ?_; refine wl_val rfl (ex_load1 rfl Tryz.agg3 (cell_nth hB11 rfl)) ?_; refine wl_g ?_; refine wl_val rfl (ex_eql rfl rfl) ?_; refine wl_g ?_; refine wl_m ?_; refine wl_split (t := 71) rfl (fun hs71 => ?_) (fun hs71 => ?_)
          ·skip
           refine wl_g ?_; refine wl_val rfl (ex_fieldAddr rfl Tryz.fld25_7) ?_; refine wl_g ?_; refine wl_val rfl (ex_load1 rfl Tryz.agg9 (cell_nth hB11 rfl)) ?_; refine wl_g ?_; refine wl_val rfl (ex_eqs rfl rfl) ?_; refine wl_g ?_; refine wl_pt ?_; refine wl_g ?_; refine wl_pf ?_; refine wl_pt ?_; refine wl_a ?_; refine wl_nil (nrm_same ?_); refine ⟨(decide (t.name = ByteArray.mk #[])), ⟨rfl, trivial⟩, ⟨rfl, rfl, trivial⟩, (Evo.refl [] w8), ?_⟩; simp only [decide_eq_true_eq, Bool.false_eq_true, true_iff, false_iff, Bool.not_eq_true'] at *
           grind
          ·skip
           refine wl_n ?_; refine wl_n ?_; refine wl_n ?_; refine wl_g ?_; refine wl_pf ?_; refine wl_g ?_; refine wl_pf ?_; refine wl_pt ?_; refine wl_a ?_; refine wl_nil (nrm_same ?_); refine ⟨false, ⟨rfl, trivial⟩, ⟨rfl, rfl, trivial⟩, (Evo.refl [] w8), ?_⟩; simp only [decide_eq_true_eq, Bool.false_eq_true, true_iff, false_iff, Bool.not_eq_true'] at *
           grind
        ·skip
         refine wl_n ?_; refine wl_n ?_; refine wl_n ?_; refine wl_u ?_; refine wl_u ?_; refine wl_u ?_; refine wl_u ?_; refine wl_u ?_; refine wl_u ?_; refine wl_u ?_; refine wl_u ?_; refine wl_n ?_; refine wl_pf ?_; refine wl_a ?_; refine wl_nil (nrm_same ?_); refine ⟨false, ⟨rfl, trivial⟩, ⟨rfl, rfl, trivial⟩, (Evo.refl [] w8), ?_⟩; simp only [decide_eq_true_eq, Bool.false_eq_true, true_iff, false_iff, Bool.not_eq_true'] at *
         grind
       ·skip
        refine wl_n ?_; refine wl_n ?_; refine wl_n ?_; refine wl_g ?_; refine wl_pf ?_; refine wl_g ?_; refine wl_pf ?_; refine wl_pt ?_; refine wl_m ?_; refine wl_n ?_; refine wl_n ?_; refine wl_n ?_; refine wl_u ?_; refine wl_u ?_; refine wl_u ?_; refine wl_u ?_; refine wl_u ?_; refine wl_u ?_; refine wl_u ?_; refine wl_u ?_; refine wl_n ?_; refine wl_pf ?_; refine wl_a ?_; refine wl_nil (nrm_same ?_); refine ⟨false, ⟨rfl, trivial⟩, ⟨rfl, rfl, trivial⟩, (Evo.refl [] w8), ?_⟩; simp only [decide_eq_true_eq, Bool.false_eq_true, true_iff, false_iff, Bool.not_eq_true'] at *
        grind
      ·skip
       refine wl_n ?_; refine wl_n ?_; refine wl_n ?_; refine wl_g ?_; refine wl_pf ?_; refine wl_g ?_; refine wl_m ?_; refine wl_n ?_; refine wl_n ?_; refine wl_n ?_; refine wl_g ?_; refine wl_pf ?_; refine wl_g ?_; refine wl_pf ?_; refine wl_pt ?_; refine wl_m ?_; refine wl_n ?_; refine wl_n ?_; refine wl_n ?_; refine wl_u ?_; refine wl_u ?_; refine wl_u ?_; refine wl_u ?_; refine wl_u ?_; refine wl_u ?_; refine wl_u ?_; refine wl_u ?_; refine wl_n ?_; refine wl_pf ?_; refine wl_a ?_; refine wl_nil (nrm_same ?_); refine ⟨false, ⟨rfl, trivial⟩, ⟨rfl, rfl, trivial⟩, (Evo.refl [] w8), ?_⟩; simp only [decide_eq_true_eq, Bool.false_eq_true, true_iff, false_iff, Bool.not_eq_true'] at *
       grind
    ·skip
     refine wl_g ?_; refine wl_val rfl (ex_fieldAddr rfl Tryz.fld25_1) ?_; refine wl_g ?_; refine wl_val rfl (ex_load1 rfl Tryz.agg21 (cell_nth hB11 rfl)) ?_; refine wl_g ?_; refine wl_val rfl (ex_eql rfl rfl) ?_; refine wl_pf ?_; refine wl_m ?_; refine wl_split (t := 45) rfl (fun hs45 => ?_) (fun hs45 => ?_)
     ·skip
      refine wl_g ?_; refine wl_m ?_; refine wl_g ?_; refine wl_val rfl (ex_eql rfl rfl) ?_; refine wl_g ?_; refine wl_m ?_; refine wl_split (t := 48) rfl (fun hs48 => ?_) (fun hs48 => ?_)
      ·skip
       refine wl_n ?_; refine wl_n ?_; refine wl_n ?_; refine wl_n ?_; refine wl_u ?_; refine wl_u ?_; refine wl_u ?_; refine wl_n ?_; refine wl_n ?_; refine wl_u ?_; refine wl_u ?_; refine wl_u ?_; refine wl_n ?_; refine wl_g ?_; refine wl_pt ?_; refine wl_pt ?_; refine wl_m ?_; refine wl_g ?_; refine wl_m ?_; refine wl_g ?_; refine wl_val rfl (ex_eql rfl rfl) ?_; refine wl_g ?_; refine wl_m ?_; refine wl_split (t := 67) rfl (fun hs67 => ?_) (fun hs67 => ?_)
       ·skip
        refine wl_n ?_; refine wl_n ?_; refine wl_n ?_; refine wl_n ?_; refine wl_u ?_; refine wl_u ?_; refine wl_u ?_; refine wl_n ?_; refine wl_g ?_; refine wl_pt ?_; refine wl_pt ?_; refine wl_a ?_; refine wl_nil (nrm_same ?_); refine ⟨true, ⟨rfl, trivial⟩, ⟨rfl, rfl, trivial⟩, (Evo.refl [] w8), ?_⟩; simp only [decide_eq_true_eq, Bool.false_eq_true, true_iff, false_iff, Bool.not_eq_true'] at *
        grind
       ·skip
        refine wl_g ?_; refine wl_val rfl (ex_fieldAddr rfl Tryz.fld25_6) ?_; refine wl_g ?_; refine wl_val rfl (ex_load1 rfl Tryz.agg3 (cell_nth hB11 rfl)) ?_; refine wl_g ?_; refine wl_val rfl (ex_eql rfl rfl) ?_; refine wl_g ?_; refine wl_m ?_; refine wl_split (t := 71) rfl (fun hs71 => ?_) (fun hs71 => ?_)
        ·skip
         refine wl_g ?_; refine wl_val rfl (ex_fieldAddr rfl Tryz.fld25_7) ?_; refine wl_g ?_; refine wl_val rfl (ex_load1 rfl Tryz.agg9 (cell_nth hB11 rfl)) ?_; refine wl_g ?_; refine wl_val rfl (ex_eqs rfl rfl) ?_; refine wl_g ?_; refine wl_pt ?_; refine wl_g ?_; refine wl_pf ?_; refine wl_pt ?_; refine wl_a ?_; refine wl_nil (nrm_same ?_); refine ⟨(decide (t.name = ByteArray.mk #[])), ⟨rfl, trivial⟩, ⟨rfl, rfl, trivial⟩, (Evo.refl [] w8), ?_⟩; simp only [decide_eq_true_eq, Bool.false_eq_true, true_iff, false_iff, Bool.not_eq_true'] at *
         grind
        ·skip
         refine wl_n ?_; refine wl_n ?_; refine wl_n ?_; refine wl_g ?_; refine wl_pf ?_; refine wl_g ?_; refine wl_pf ?_; refine wl_pt ?_; refine wl_a ?_; refine wl_nil (nrm_same ?_); refine ⟨false, ⟨rfl, trivial⟩, ⟨rfl, rfl, trivial⟩, (Evo.refl [] w8), ?_⟩; simp only [decide_eq_true_eq, Bool.false_eq_true, true_iff, false_iff, Bool.not_eq_true'] at *
         grind
      ·skip
       refine wl_g ?_; refine wl_val rfl (ex_fieldAddr rfl Tryz.fld25_3) ?_; refine wl_g ?_; refine wl_val rfl (ex_load1 rfl Tryz.agg3 (cell_nth hB11 rfl)) ?_; refine wl_g ?_; refine wl_val rfl (ex_eql rfl rfl) ?_; refine wl_g ?_; refine wl_m ?_; refine wl_split (t := 52) rfl (fun hs52 => ?_) (fun hs52 => ?_)
       ·skip
        refine wl_g ?_; refine wl_val rfl (ex_fieldAddr rfl Tryz.fld25_4) ?_; refine wl_g ?_; refine wl_val rfl (ex_load1 rfl Tryz.agg3 (cell_nth hB11 rfl)) ?_; refine wl_g ?_; refine wl_val rfl (ex_eql rfl rfl) ?_; refine wl_g ?_; refine wl_pt ?_; refine wl_g ?_; refine wl_m ?_; refine wl_split (t := 57) rfl (fun hs57 => ?_) (fun hs57 => ?_)
        ·skip
         refine wl_g ?_; refine wl_val rfl (ex_fieldAddr rfl Tryz.fld25_5) ?_; refine wl_g ?_; refine wl_val rfl (ex_load1 rfl Tryz.agg4 (cell_nth hB11 rfl)) ?_; refine wl_g ?_; refine wl_val rfl (ex_notb rfl) ?_; refine wl_g ?_; refine wl_pt ?_; refine wl_g ?_; refine wl_pf ?_; refine wl_pt ?_; refine wl_m ?_; refine wl_splitb (t := 64) rfl (fun hs64 => ?_) (fun hs64 => ?_)
         ·skip
          refine wl_g ?_; refine wl_m ?_; refine wl_g ?_; refine wl_val rfl (ex_eql rfl rfl) ?_; refine wl_g ?_; refine wl_m ?_; refine wl_split (t := 67) rfl (fun hs67 => ?_) (fun hs67 => ?_)
          ·skip
           refine wl_n ?_; refine wl_n ?_; refine wl_n ?_; refine wl_n ?_; refine wl_u ?_; refine wl_u ?_; refine wl_u ?_; refine wl_n ?_; refine wl_g ?_; refine wl_pt ?_; refine wl_pt ?_; refine wl_a ?_; refine wl_nil (nrm_same ?_); refine ⟨true, ⟨rfl, trivial⟩, ⟨rfl, rfl, trivial⟩, (Evo.refl [] w8), ?_⟩; simp only [decide_eq_true_eq, Bool.false_eq_true, true_iff, false_iff, Bool.not_eq_true'] at *
           grind
          ·skip
           refine wl_g ?_; refine wl_val rfl (ex_fieldAddr rfl Tryz.fld25_6) ?_; refine wl_g ?_; refine wl_val rfl (ex_load1 rfl Tryz.agg3 (cell_nth hB11 rfl)) ?_; refine wl_g ?_; refine wl_val rfl (ex_eql rfl rfl) ?_; refine wl_g ?_; refine wl_m ?_; refine wl_split (t := 71) rfl (fun hs71 => ?_) (fun hs71 => ?_)
           ·skip
            refine wl_g ?_; refine wl_val rfl (ex_fieldAddr rfl Tryz.fld25_7) ?_; refine wl_g ?_; refine wl_val rfl (ex_load1 rfl Tryz.agg9 (cell_nth hB11 rfl)) ?_; refine wl_g ?_; refine wl_val rfl (ex_eqs rfl rfl) ?_; refine wl_g ?_; refine wl_pt ?_; refine wl_g ?_; refine wl_pf ?_; refine wl_pt ?_; refine wl_a ?_; refine wl_nil (nrm_same ?_); refine ⟨(decide (t.name = ByteArray.mk #[])), ⟨rfl, trivial⟩, ⟨rfl, rfl, trivial⟩, (Evo.refl [] w8), ?_⟩; simp only [decide_eq_true_eq, Bool.false_eq_true, true_iff, false_iff, Bool.not_eq_true'] at *
            grind
           ·skip
            refine wl_n ?_; refine wl_n ?_; refine wl_n ?_; refine wl_g ?_; refine wl_pf ?_; refine wl_g ?_; refine wl_pf ?_; refine wl_pt ?_; refine wl_a ?_; refine wl_nil (nrm_same ?_); refine ⟨false, ⟨rfl, trivial⟩, ⟨rfl, rfl, trivial⟩, (Evo.refl [] w8), ?_⟩; simp only [decide_eq_true_eq, Bool.false_eq_true, true_iff, false_iff, Bool.not_eq_true'] at *
            grind
         ·skip
          refine wl_n ?_; refine wl_n ?_; refine wl_n ?_; refine wl_u ?_; refine wl_u ?_; refine wl_u ?_; refine wl_u ?_; refine wl_u ?_; refine wl_u ?_; refine wl_u ?_; refine wl_u ?_; refine wl_n ?_; refine wl_pf ?_; refine wl_a ?_; refine wl_nil (nrm_same ?_); refine ⟨false, ⟨rfl, trivial⟩, ⟨rfl, rfl, trivial⟩, (Evo.refl [] w8), ?_⟩; simp only [decide_eq_true_eq, Bool.false_eq_true, true_iff, false_iff, Bool.not_eq_true'] at *
          grind
        ·skip
         refine wl_n ?_; refine wl_n ?_; refine wl_n ?_; refine wl_g ?_; refine wl_pf ?_; refine wl_g ?_; refine wl_pf ?_; refine wl_pt ?_; refine wl_m ?_; refine wl_n ?_; refine wl_n ?_; refine wl_n ?_; refine wl_u ?_; refine wl_u ?_; refine wl_u ?_; refine wl_u ?_; refine wl_u ?_; refine wl_u ?_; refine wl_u ?_; refine wl_u ?_; refine wl_n ?_; refine wl_pf ?_; refine wl_a ?_; refine wl_nil (nrm_same ?_); refine ⟨false, ⟨rfl, trivial⟩, ⟨rfl, rfl, trivial⟩, (Evo.refl [] w8), ?_⟩; simp only [decide_eq_true_eq, Bool.false_eq_true, true_iff, false_iff, Bool.not_eq_true'] at *
         grind
       ·skip
        refine wl_n ?_; refine wl_n ?_; refine wl_n ?_; refine wl_g ?_; refine wl_pf ?_; refine wl_g ?_; refine wl_m ?_; refine wl_n ?_; refine wl_n ?_; refine wl_n ?_; refine wl_g ?_; refine wl_pf ?_; refine wl_g ?_; refine wl_pf ?_; refine wl_pt ?_; refine wl_m ?_; refine wl_n ?_; refine wl_n ?_; refine wl_n ?_; refine wl_u ?_; refine wl_u ?_; refine wl_u ?_; refine wl_u ?_; refine wl_u ?_; refine wl_u ?_; refine wl_u ?_; refine wl_u ?_; refine wl_n ?_; refine wl_pf ?_; refine wl_a ?_; refine wl_nil (nrm_same ?_); refine ⟨false, ⟨rfl, trivial⟩, ⟨rfl, rfl, trivial⟩, (Evo.refl [] w8), ?_⟩; simp only [decide_eq_true_eq, Bool.false_eq_true, true_iff, false_iff, Bool.not_eq_true'] at *
        grind
     ·skip
      refine wl_n ?_; refine wl_n ?_; refine wl_n ?_; refine wl_u ?_; refine wl_u ?_; refine wl_u ?_; refine wl_u ?_; refine wl_u ?_; refine wl_u ?_; refine wl_u ?_; refine wl_u ?_; refine wl_u ?_; refine wl_u ?_; refine wl_u ?_; refine wl_u ?_; refine wl_u ?_; refine wl_n ?_; refine wl_pf ?_; refine wl_m ?_; refine wl_n ?_; refine wl_n ?_; refine wl_n ?_; refine wl_u ?_; refine wl_u ?_; refine wl_u ?_; refine wl_u ?_; refine wl_u ?_; refine wl_u ?_; refine wl_u ?_; refine wl_u ?_; refine wl_n ?_; refine wl_pf ?_; refine wl_a ?_; refine wl_nil (nrm_same ?_); refine ⟨false, ⟨rfl, trivial⟩, ⟨rfl, rfl, trivial⟩, (Evo.refl [] w8), ?_⟩; simp only [decide_eq_true_eq, Bool.false_eq_true, true_iff, false_iff, Bool.not_eq_true'] at *
      grind
   ·skip
    rintro y w12 ⟨hV13, hy⟩; refine nrm_then ?_; show CW _ _ _ _ [(5, _), (2, _), (4, _)] _; have hE14 := hE10.then hV13; have hB15 := hV13.blk0 hB11; refine cw_seq ?_; refine cw_region ?_; refine wl_m ?_; refine wl_m ?_; refine wl_splitb (t := 79) rfl (fun hs79 => ?_) (fun hs79 => ?_)
    ·skip
     subst hs79; refine wl_g ?_; refine wl_m ?_; refine wl_pt ?_; refine wl_a ?_; refine wl_nil (nrm_then ?_); refine cw_ret (body_ret1 rfl rfl ?_); refine ⟨_, rfl, ?_, hE14⟩; rw [bareP_iff, hy]; have := hz.1 rfl
     grind
    ·skip
     subst hs79; refine wl_n ?_; refine wl_pf ?_; refine wl_a ?_; refine wl_nil (nrm_then ?_); refine cw_ret (body_ret1 rfl rfl ?_); refine ⟨false, rfl, ?_, hE14⟩; rw [bareP_iff]
     simp only [Bool.false_eq_true, false_iff]; intro hh
     have := hz.2 ⟨hh.1, hh.2.1⟩; cases this
theorem rng_last {l : List (Int × Int)} {k j : Nat} (hk : k < l.length) (h : j < l.length) (e : k + 1 = j + 1) : l[k].2 + 2 = l[j].2 + 2 := by
  obtain rfl : k = j := by omega
  rfl
theorem ranges_ok {X : List Nat} {w : World} {v : Value} {l : List (Int × Int)} (hs : RSl 2 RRg X w v l) (hl : l.length ≤ 140737488351232) : Calls Tryz.prog 133 #[v] w (Ret fun v w' => ∃ b, v = .bool b ∧ (b = true ↔ RangesOk l) ∧ Evo [] w w') := by
  obtain ⟨sa, sc, rfl, hlc, e1⟩ := hs; refine calls_of_cw (N := 59) Tryz.func133 rfl rfl rfl ?_; refine cw_seq ?_; refine cw_region ?_; refine wl_a ?_; refine wl_nil (nrm_then ?_); refine cw_seq ?_; refine cw_region ?_; refine wl_a ?_; refine wl_nil (nrm_then ?_); refine cw_seq ?_; refine cw_seq ?_; refine cw_region ?_; refine wl_a ?_; refine wl_nil (nrm_then ?_); refine cw_block ?_; refine cw_loop (α := Nat × Int) ((0, 0)) (fun x => [(3, .int .i32 x.2), (4, .int .i64 (x.1 : Nat))]) [(0, _)] (fun x wr => Evo [] w wr ∧ (x.1 ≤ l.length ∧ RangesTo l x.1 ∧ (x.1 = 0 → x.2 = 0) ∧ (∀ j (h : j < l.length), x.1 = j + 1 → x.2 = l[j].2 + 2))) (fun x => l.length - x.1) ⟨rfl, rfl, trivial⟩ ⟨rfl, trivial⟩ ⟨Evo.refl _ _, ⟨Nat.zero_le _, fun i _ h => by omega, fun _ => rfl, fun j _ h => by omega⟩⟩ ?_; rintro ⟨k, nx⟩ wr1 ⟨hV2, ⟨hk, hok, hn0, hn1⟩⟩; show CW _ _ _ _ [(3, .int .i32 nx), (4, .int .i64 (k : Nat)), (0, _)] _
  try dsimp only at hk
  try dsimp only at hok
  try dsimp only at hn0
  try dsimp only at hn1
  have hE3 := (Evo.refl [] w).then hV2; refine cw_seq ?_; refine cw_seq ?_; refine cw_region ?_; refine wl_m ?_; refine wl_m ?_; refine wl_val rfl (ex_len_slice rfl Tryz.underlying22 rfl) ?_; refine wl_val rfl (ex_lss rfl rfl) ?_; refine wl_nil (nrm_then ?_); refine cw_if rfl (fun hc8 => ?_) (fun hc8 => ?_)
  ·skip
   have hnx : 0 ≤ nx := by
      by_cases hk0 : k = 0
      · have := hn0 hk0; omega
      · have h1 := hn1 (k - 1) (by omega) (by omega); have h2 := (hok (k - 1) (by omega) (by omega)); omega
   have hk' : k < l.length := by omega
   obtain ⟨b1, o1, vs1, ha1, hb1, -, hc1, rfl⟩ := e1 k hk'; refine cw_skip (nrm_then ?_); refine cw_seq ?_; refine cw_block ?_; refine cw_seq ?_; refine cw_seq ?_; refine cw_quiet (by kernel_rfl) (by kernel_rfl) ?_; refine ql_val rfl (fun _ hq5 => ex_move rfl) ?_; refine ql_val rfl (fun _ hq5 => ex_move rfl) ?_
   refine ql_val rfl (fun _ hq5 => ex_indexAddr (n := k) (by rw [ha1]; rfl) rfl Tryz.elem22 (by omega)) ?_
   refine ql_val rfl (fun _ hq5 => ex_fieldAddr rfl Tryz.fld129_0) ?_; refine ql_val rfl (fun _ hq5 => ex_load1 rfl Tryz.agg21 ((hc1.evo (hE3.then hq5) (by simp)) 0 _ rfl)) ?_; refine ql_val rfl (fun _ hq5 => ex_move rfl) ?_; refine ql_val rfl (fun _ hq5 => ex_lss rfl rfl) ?_; refine ql_val rfl (fun _ hq5 => ex_move rfl) ?_; refine ql_split (t := 18) rfl (fun hs18 => ?_) (fun hs18 => ?_)
   ·skip
    refine ql_no rfl rfl rfl rfl rfl rfl ?_; refine ql_no rfl rfl rfl rfl rfl rfl ?_; refine ql_no rfl rfl rfl rfl rfl rfl ?_; refine ql_no rfl rfl rfl rfl rfl rfl ?_; refine ql_no rfl rfl rfl rfl rfl rfl ?_; refine ql_no rfl rfl rfl rfl rfl rfl ?_; refine ql_no rfl rfl rfl rfl rfl rfl ?_; refine ql_no rfl rfl rfl rfl rfl rfl ?_; refine ql_no rfl rfl rfl rfl rfl rfl ?_; refine ql_no rfl rfl rfl rfl rfl rfl ?_; refine ql_no rfl rfl rfl rfl rfl rfl ?_; refine ql_val rfl (fun _ hq5 => ex_pick_t rfl rfl) ?_; refine ql_val rfl (fun _ hq5 => ex_move rfl) ?_; refine ql_no rfl rfl rfl rfl rfl rfl ?_; refine ql_no rfl rfl rfl rfl rfl rfl ?_; refine ql_no rfl rfl rfl rfl rfl rfl ?_; refine ql_no rfl rfl rfl rfl rfl rfl ?_; refine ql_no rfl rfl rfl rfl rfl rfl ?_; refine ql_no rfl rfl rfl rfl rfl rfl ?_; refine ql_val rfl (fun _ hq5 => ex_pick_t rfl rfl) ?_; refine ql_nil (fun wq4 hq5 => nrm_then ?_); have hE6 := hE3.then hq5; have hE7 := hV2.then hq5; refine cw_true rfl ?_; refine cw_seq ?_; refine cw_region ?_; refine wl_a ?_; refine wl_nil (nrm_then ?_); refine cw_ret (ret_then (ret_block (ret_then (ret_then (ret_block (ret_then (body_ret1 rfl rfl ?_)))))))
    exact ⟨false, rfl, by simp only [Bool.false_eq_true, false_iff]; exact fun h => by have h2 := h.1 k hk'; by_cases hk0 : k = 0; have := hn0 hk0; omega; have h1 := hn1 (k - 1) (by omega) (by omega); have := h2.2.2.2 (k - 1) (by omega) (by omega); omega, hE6⟩
   ·skip
    refine ql_go rfl rfl rfl rfl ?_; refine ql_val rfl (fun _ hq5 => ex_move rfl) ?_; refine ql_go rfl rfl rfl rfl ?_; refine ql_val rfl (fun _ hq5 => ex_move rfl) ?_; refine ql_go rfl rfl rfl rfl ?_
    refine ql_val rfl (fun _ hq5 => ex_indexAddr (n := k) (by rw [ha1]; rfl) rfl Tryz.elem22 (by omega)) ?_
    refine ql_go rfl rfl rfl rfl ?_; refine ql_val rfl (fun _ hq5 => ex_fieldAddr rfl Tryz.fld129_1) ?_; refine ql_go rfl rfl rfl rfl ?_; refine ql_val rfl (fun _ hq5 => ex_load1 rfl Tryz.agg21 ((hc1.evo (hE3.then hq5) (by simp)) 1 _ rfl)) ?_; refine ql_go rfl rfl rfl rfl ?_; refine ql_val rfl (fun _ hq5 => ex_move rfl) ?_; refine ql_go rfl rfl rfl rfl ?_; refine ql_val rfl (fun _ hq5 => ex_move rfl) ?_; refine ql_go rfl rfl rfl rfl ?_
    refine ql_val rfl (fun _ hq5 => ex_indexAddr (n := k) (by rw [ha1]; rfl) rfl Tryz.elem22 (by omega)) ?_
    refine ql_go rfl rfl rfl rfl ?_; refine ql_val rfl (fun _ hq5 => ex_fieldAddr rfl Tryz.fld129_0) ?_; refine ql_go rfl rfl rfl rfl ?_; refine ql_val rfl (fun _ hq5 => ex_load1 rfl Tryz.agg21 ((hc1.evo (hE3.then hq5) (by simp)) 0 _ rfl)) ?_; refine ql_go rfl rfl rfl rfl ?_; refine ql_val rfl (fun _ hq5 => ex_lss rfl rfl) ?_; refine ql_val rfl (fun _ hq5 => ex_pick_f rfl rfl) ?_; refine ql_val rfl (fun _ hq5 => ex_move rfl) ?_; refine ql_split (t := 31) rfl (fun hs31 => ?_) (fun hs31 => ?_)
    ·skip
     refine ql_no rfl rfl rfl rfl rfl rfl ?_; refine ql_no rfl rfl rfl rfl rfl rfl ?_; refine ql_no rfl rfl rfl rfl rfl rfl ?_; refine ql_no rfl rfl rfl rfl rfl rfl ?_; refine ql_no rfl rfl rfl rfl rfl rfl ?_; refine ql_no rfl rfl rfl rfl rfl rfl ?_; refine ql_val rfl (fun _ hq5 => ex_pick_t rfl rfl) ?_; refine ql_nil (fun wq4 hq5 => nrm_then ?_); have hE8 := hE3.then hq5; have hE9 := hV2.then hq5; refine cw_true rfl ?_; refine cw_seq ?_; refine cw_region ?_; refine wl_a ?_; refine wl_nil (nrm_then ?_); refine cw_ret (ret_then (ret_block (ret_then (ret_then (ret_block (ret_then (body_ret1 rfl rfl ?_)))))))
     exact ⟨false, rfl, by simp only [Bool.false_eq_true, false_iff]; exact fun h => by have h2 := h.1 k hk'; omega, hE8⟩
    ·skip
     refine ql_go rfl rfl rfl rfl ?_; refine ql_val rfl (fun _ hq5 => ex_move rfl) ?_; refine ql_go rfl rfl rfl rfl ?_; refine ql_val rfl (fun _ hq5 => ex_move rfl) ?_; refine ql_go rfl rfl rfl rfl ?_
     refine ql_val rfl (fun _ hq5 => ex_indexAddr (n := k) (by rw [ha1]; rfl) rfl Tryz.elem22 (by omega)) ?_
     refine ql_go rfl rfl rfl rfl ?_; refine ql_val rfl (fun _ hq5 => ex_fieldAddr rfl Tryz.fld129_1) ?_; refine ql_go rfl rfl rfl rfl ?_; refine ql_val rfl (fun _ hq5 => ex_load1 rfl Tryz.agg21 ((hc1.evo (hE3.then hq5) (by simp)) 1 _ rfl)) ?_; refine ql_go rfl rfl rfl rfl ?_; refine ql_val rfl (fun _ hq5 => ex_gtr rfl rfl) ?_; refine ql_val rfl (fun _ hq5 => ex_pick_f rfl rfl) ?_; refine ql_nil (fun wq4 hq5 => nrm_then ?_); have hE10 := hE3.then hq5; have hE11 := hV2.then hq5; refine cw_if rfl (fun hc38 => ?_) (fun hc38 => ?_)
     ·skip
      refine cw_seq ?_; refine cw_region ?_; refine wl_a ?_; refine wl_nil (nrm_then ?_); refine cw_ret (ret_then (ret_block (ret_then (ret_then (ret_block (ret_then (body_ret1 rfl rfl ?_)))))))
      exact ⟨false, rfl, by simp only [Bool.false_eq_true, false_iff]; exact fun h => by have h2 := h.1 k hk'; omega, hE10⟩
     ·skip
      refine cw_skip (nrm_then ?_); refine cw_region ?_; refine wl_m ?_; refine wl_m ?_
      refine wl_val rfl (ex_indexAddr (n := k) (by rw [ha1]; rfl) rfl Tryz.elem22 (by omega)) ?_
      refine wl_val rfl (ex_fieldAddr rfl Tryz.fld129_1) ?_; refine wl_val rfl (ex_load1 rfl Tryz.agg21 ((hc1.evo hE10 (by simp)) 1 _ rfl)) ?_; refine wl_val rfl (ex_add_i32 rfl rfl (by omega) (by omega)) ?_; refine wl_a ?_; refine wl_nil (nrm_block (nrm_then ?_)); refine cw_region ?_; refine wl_m ?_; refine wl_val rfl (ex_add_i64 rfl rfl (by omega) (by omega)) ?_; refine wl_a ?_; refine wl_nil (nrm_same ?_); refine ⟨(k + 1, l[k].2 + 2), ?_, ⟨rfl, rfl, trivial⟩, ⟨rfl, trivial⟩, hE11, ?_⟩
      · (try dsimp only); omega
      ·skip
       try dsimp only
       refine ⟨by omega, hok.succ hk' ?_ (by omega) (by omega) ?_, fun h => by omega, fun j h e => rng_last hk' h e⟩
       · by_cases hk0 : k = 0
         · have := hn0 hk0; omega
         · have h1 := hn1 (k - 1) (by omega) (by omega); have h2 := (hok (k - 1) (by omega) (by omega)); omega
       · intro j hj e; have h1 := hn1 j hj e; omega
  ·skip
   refine cw_exit (ex_then (ex_then (ex_here (nrm_then ?_)))); refine cw_seq ?_; refine cw_quiet (by kernel_rfl) (by kernel_rfl) ?_; refine ql_val rfl (fun _ hq13 => ex_move rfl) ?_; refine ql_val rfl (fun _ hq13 => ex_len_slice rfl Tryz.underlying22 rfl) ?_; refine ql_val rfl (fun _ hq13 => ex_neq rfl rfl) ?_; refine ql_val rfl (fun _ hq13 => ex_move rfl) ?_; refine ql_split (t := 48) rfl (fun hs48 => ?_) (fun hs48 => ?_)
   ·skip
    refine ql_no rfl rfl rfl rfl rfl rfl ?_; refine ql_no rfl rfl rfl rfl rfl rfl ?_; refine ql_no rfl rfl rfl rfl rfl rfl ?_; refine ql_no rfl rfl rfl rfl rfl rfl ?_; refine ql_no rfl rfl rfl rfl rfl rfl ?_; refine ql_no rfl rfl rfl rfl rfl rfl ?_; refine ql_no rfl rfl rfl rfl rfl rfl ?_; refine ql_no rfl rfl rfl rfl rfl rfl ?_; refine ql_no rfl rfl rfl rfl rfl rfl ?_; refine ql_val rfl (fun _ hq13 => ex_pick_t rfl rfl) ?_; refine ql_val rfl (fun _ hq13 => ex_assign rfl) ?_; refine ql_nil (fun wq12 hq13 => nrm_then ?_); have hE14 := hE3.then hq13; have hE15 := hV2.then hq13; refine cw_ret (body_ret1 rfl rfl ?_)
    exact ⟨true, rfl, by simp only [true_iff]; exact hok.ok (by omega) (fun h => by omega), hE14⟩
   ·skip
    obtain ⟨b1, o1, vs1, ha1, hb1, -, hc1, rfl⟩ := e1 0 (by omega); refine ql_go rfl rfl rfl rfl ?_; refine ql_val rfl (fun _ hq13 => ex_move rfl) ?_; refine ql_go rfl rfl rfl rfl ?_
    refine ql_val rfl (fun _ hq13 => ex_indexAddrZ (n := 0) (by rw [ha1]; rfl) rfl rfl Tryz.elem22 (by omega)) ?_
    refine ql_go rfl rfl rfl rfl ?_; refine ql_val rfl (fun _ hq13 => ex_fieldAddr rfl Tryz.fld129_0) ?_; refine ql_go rfl rfl rfl rfl ?_; refine ql_val rfl (fun _ hq13 => ex_load1 rfl Tryz.agg21 ((hc1.evo (hE3.then hq13) (by simp)) 0 _ rfl)) ?_; refine ql_go rfl rfl rfl rfl ?_; refine ql_val rfl (fun _ hq13 => ex_move rfl) ?_; refine ql_go rfl rfl rfl rfl ?_
    refine ql_val rfl (fun _ hq13 => ex_indexAddrZ (n := 0) (by rw [ha1]; rfl) rfl rfl Tryz.elem22 (by omega)) ?_
    refine ql_go rfl rfl rfl rfl ?_; refine ql_val rfl (fun _ hq13 => ex_fieldAddr rfl Tryz.fld129_1) ?_; refine ql_go rfl rfl rfl rfl ?_; refine ql_val rfl (fun _ hq13 => ex_load1 rfl Tryz.agg21 ((hc1.evo (hE3.then hq13) (by simp)) 1 _ rfl)) ?_; refine ql_go rfl rfl rfl rfl ?_; refine ql_val rfl (fun _ hq13 => ex_neq rfl rfl) ?_; refine ql_val rfl (fun _ hq13 => ex_pick_f rfl rfl) ?_; refine ql_val rfl (fun _ hq13 => ex_assign rfl) ?_; refine ql_nil (fun wq12 hq13 => nrm_then ?_); have hE16 := hE3.then hq13; have hE17 := hV2.then hq13; refine cw_ret (body_ret1 rfl rfl ?_)
    exact ⟨_, rfl, by simp only [decide_eq_true_eq]; exact ⟨fun h => hok.ok (by omega) (fun _ => h), fun h => h.2 (by omega)⟩, hE16⟩
theorem wordRune_ok {w : World} (c : Nat) : Calls Tryz.prog 168 #[.int .i32 (c : Nat)] w (Ret fun v w' => v = .bool (decide (wordN c)) ∧ Evo [] w w') := by
  refine calls_of_cw (N := 29) Tryz.func168 rfl rfl rfl ?_; refine cw_seq ?_; refine cw_region ?_; refine wl_a ?_; refine wl_nil (nrm_then ?_); refine cw_seq ?_; refine cw_region ?_; refine wl_m ?_; refine wl_val rfl (ex_eql rfl rfl) ?_; refine wl_m ?_; refine wl_split (t := 5) rfl (fun hs5 => ?_) (fun hs5 => ?_)
  ·skip
   refine wl_n ?_; refine wl_n ?_; refine wl_n ?_; refine wl_u ?_; refine wl_u ?_; refine wl_n ?_; refine wl_pt ?_; refine wl_m ?_; refine wl_n ?_; refine wl_n ?_; refine wl_n ?_; refine wl_u ?_; refine wl_u ?_; refine wl_n ?_; refine wl_pt ?_; refine wl_m ?_; refine wl_n ?_; refine wl_n ?_; refine wl_n ?_; refine wl_u ?_; refine wl_u ?_; refine wl_n ?_; refine wl_pt ?_; refine wl_a ?_; refine wl_nil (nrm_then ?_); refine cw_ret (body_ret1 rfl rfl ?_); refine ⟨congrArg Value.bool (Bool.eq_iff_iff.2 ?_), (Evo.refl [] w)⟩
   simp only [decide_eq_true_eq, Bool.false_eq_true, Bool.true_eq_false, true_iff, false_iff, eq_self, iff_true]; unfold wordN; omega
  ·skip
   refine wl_g ?_; refine wl_m ?_; refine wl_g ?_; refine wl_val rfl (ex_geq rfl rfl) ?_; refine wl_g ?_; refine wl_m ?_; refine wl_split (t := 8) rfl (fun hs8 => ?_) (fun hs8 => ?_)
   ·skip
    refine wl_g ?_; refine wl_m ?_; refine wl_g ?_; refine wl_val rfl (ex_leq rfl rfl) ?_; refine wl_g ?_; refine wl_pt ?_; refine wl_pf ?_; refine wl_m ?_; refine wl_split (t := 13) rfl (fun hs13 => ?_) (fun hs13 => ?_)
    ·skip
     refine wl_n ?_; refine wl_n ?_; refine wl_n ?_; refine wl_u ?_; refine wl_u ?_; refine wl_n ?_; refine wl_pt ?_; refine wl_m ?_; refine wl_n ?_; refine wl_n ?_; refine wl_n ?_; refine wl_u ?_; refine wl_u ?_; refine wl_n ?_; refine wl_pt ?_; refine wl_a ?_; refine wl_nil (nrm_then ?_); refine cw_ret (body_ret1 rfl rfl ?_); refine ⟨congrArg Value.bool (Bool.eq_iff_iff.2 ?_), (Evo.refl [] w)⟩
     simp only [decide_eq_true_eq, Bool.false_eq_true, Bool.true_eq_false, true_iff, false_iff, eq_self, iff_true]; unfold wordN; omega
    ·skip
     refine wl_g ?_; refine wl_m ?_; refine wl_g ?_; refine wl_val rfl (ex_geq rfl rfl) ?_; refine wl_g ?_; refine wl_m ?_; refine wl_split (t := 16) rfl (fun hs16 => ?_) (fun hs16 => ?_)
     ·skip
      refine wl_g ?_; refine wl_m ?_; refine wl_g ?_; refine wl_val rfl (ex_leq rfl rfl) ?_; refine wl_g ?_; refine wl_pt ?_; refine wl_pf ?_; refine wl_m ?_; refine wl_split (t := 21) rfl (fun hs21 => ?_) (fun hs21 => ?_)
      ·skip
       refine wl_n ?_; refine wl_n ?_; refine wl_n ?_; refine wl_u ?_; refine wl_u ?_; refine wl_n ?_; refine wl_pt ?_; refine wl_a ?_; refine wl_nil (nrm_then ?_); refine cw_ret (body_ret1 rfl rfl ?_); refine ⟨congrArg Value.bool (Bool.eq_iff_iff.2 ?_), (Evo.refl [] w)⟩
       simp only [decide_eq_true_eq, Bool.false_eq_true, Bool.true_eq_false, true_iff, false_iff, eq_self, iff_true]; unfold wordN; omega
      ·skip
       refine wl_g ?_; refine wl_m ?_; refine wl_g ?_; refine wl_val rfl (ex_geq rfl rfl) ?_; refine wl_g ?_; refine wl_m ?_; refine wl_split (t := 24) rfl (fun hs24 => ?_) (fun hs24 => ?_)
       ·skip
        refine wl_g ?_; refine wl_m ?_; refine wl_g ?_; refine wl_val rfl (ex_leq rfl rfl) ?_; refine wl_g ?_; refine wl_pt ?_; refine wl_pf ?_; refine wl_a ?_; refine wl_nil (nrm_then ?_); refine cw_ret (body_ret1 rfl rfl ?_); refine ⟨congrArg Value.bool (Bool.eq_iff_iff.2 ?_), (Evo.refl [] w)⟩
        simp only [decide_eq_true_eq, Bool.false_eq_true, Bool.true_eq_false, true_iff, false_iff, eq_self, iff_true]; unfold wordN; omega
       ·skip
        refine wl_n ?_; refine wl_n ?_; refine wl_g ?_; refine wl_pf ?_; refine wl_pf ?_; refine wl_a ?_; refine wl_nil (nrm_then ?_); refine cw_ret (body_ret1 rfl rfl ?_); refine ⟨congrArg Value.bool (Bool.eq_iff_iff.2 ?_), (Evo.refl [] w)⟩
        simp only [decide_eq_true_eq, Bool.false_eq_true, Bool.true_eq_false, true_iff, false_iff, eq_self, iff_true]; unfold wordN; omega
     ·skip
      refine wl_n ?_; refine wl_n ?_; refine wl_g ?_; refine wl_pf ?_; refine wl_pf ?_; refine wl_m ?_; refine wl_g ?_; refine wl_m ?_; refine wl_g ?_; refine wl_val rfl (ex_geq rfl rfl) ?_; refine wl_g ?_; refine wl_m ?_; refine wl_split (t := 24) rfl (fun hs24 => ?_) (fun hs24 => ?_)
      ·skip
       refine wl_g ?_; refine wl_m ?_; refine wl_g ?_; refine wl_val rfl (ex_leq rfl rfl) ?_; refine wl_g ?_; refine wl_pt ?_; refine wl_pf ?_; refine wl_a ?_; refine wl_nil (nrm_then ?_); refine cw_ret (body_ret1 rfl rfl ?_); refine ⟨congrArg Value.bool (Bool.eq_iff_iff.2 ?_), (Evo.refl [] w)⟩
       simp only [decide_eq_true_eq, Bool.false_eq_true, Bool.true_eq_false, true_iff, false_iff, eq_self, iff_true]; unfold wordN; omega
      ·skip
       refine wl_n ?_; refine wl_n ?_; refine wl_g ?_; refine wl_pf ?_; refine wl_pf ?_; refine wl_a ?_; refine wl_nil (nrm_then ?_); refine cw_ret (body_ret1 rfl rfl ?_); refine ⟨congrArg Value.bool (Bool.eq_iff_iff.2 ?_), (Evo.refl [] w)⟩
       simp only [decide_eq_true_eq, Bool.false_eq_true, Bool.true_eq_false, true_iff, false_iff, eq_self, iff_true]; unfold wordN; omega
   ·skip
    refine wl_n ?_; refine wl_n ?_; refine wl_g ?_; refine wl_pf ?_; refine wl_pf ?_; refine wl_m ?_; refine wl_g ?_; refine wl_m ?_; refine wl_g ?_; refine wl_val rfl (ex_geq rfl rfl) ?_; refine wl_g ?_; refine wl_m ?_; refine wl_split (t := 16) rfl (fun hs16 => ?_) (fun hs16 => ?_)
    ·skip
     refine wl_g ?_; refine wl_m ?_; refine wl_g ?_; refine wl_val rfl (ex_leq rfl rfl) ?_; refine wl_g ?_; refine wl_pt ?_; refine wl_pf ?_; refine wl_m ?_; refine wl_split (t := 21) rfl (fun hs21 => ?_) (fun hs21 => ?_)
     ·skip
      refine wl_n ?_; refine wl_n ?_; refine wl_n ?_; refine wl_u ?_; refine wl_u ?_; refine wl_n ?_; refine wl_pt ?_; refine wl_a ?_; refine wl_nil (nrm_then ?_); refine cw_ret (body_ret1 rfl rfl ?_); refine ⟨congrArg Value.bool (Bool.eq_iff_iff.2 ?_), (Evo.refl [] w)⟩
      simp only [decide_eq_true_eq, Bool.false_eq_true, Bool.true_eq_false, true_iff, false_iff, eq_self, iff_true]; unfold wordN; omega
     ·skip
      refine wl_g ?_; refine wl_m ?_; refine wl_g ?_; refine wl_val rfl (ex_geq rfl rfl) ?_; refine wl_g ?_; refine wl_m ?_; refine wl_split (t := 24) rfl (fun hs24 => ?_) (fun hs24 => ?_)
      ·skip
       refine wl_g ?_; refine wl_m ?_; refine wl_g ?_; refine wl_val rfl (ex_leq rfl rfl) ?_; refine wl_g ?_; refine wl_pt ?_; refine wl_pf ?_; refine wl_a ?_; refine wl_nil (nrm_then ?_); refine cw_ret (body_ret1 rfl rfl ?_); refine ⟨congrArg Value.bool (Bool.eq_iff_iff.2 ?_), (Evo.refl [] w)⟩
       simp only [decide_eq_true_eq, Bool.false_eq_true, Bool.true_eq_false, true_iff, false_iff, eq_self, iff_true]; unfold wordN; omega
      ·skip
       refine wl_n ?_; refine wl_n ?_; refine wl_g ?_; refine wl_pf ?_; refine wl_pf ?_; refine wl_a ?_; refine wl_nil (nrm_then ?_); refine cw_ret (body_ret1 rfl rfl ?_); refine ⟨congrArg Value.bool (Bool.eq_iff_iff.2 ?_), (Evo.refl [] w)⟩
       simp only [decide_eq_true_eq, Bool.false_eq_true, Bool.true_eq_false, true_iff, false_iff, eq_self, iff_true]; unfold wordN; omega
    ·skip
     refine wl_n ?_; refine wl_n ?_; refine wl_g ?_; refine wl_pf ?_; refine wl_pf ?_; refine wl_m ?_; refine wl_g ?_; refine wl_m ?_; refine wl_g ?_; refine wl_val rfl (ex_geq rfl rfl) ?_; refine wl_g ?_; refine wl_m ?_; refine wl_split (t := 24) rfl (fun hs24 => ?_) (fun hs24 => ?_)
     ·skip
      refine wl_g ?_; refine wl_m ?_; refine wl_g ?_; refine wl_val rfl (ex_leq rfl rfl) ?_; refine wl_g ?_; refine wl_pt ?_; refine wl_pf ?_; refine wl_a ?_; refine wl_nil (nrm_then ?_); refine cw_ret (body_ret1 rfl rfl ?_); refine ⟨congrArg Value.bool (Bool.eq_iff_iff.2 ?_), (Evo.refl [] w)⟩
      simp only [decide_eq_true_eq, Bool.false_eq_true, Bool.true_eq_false, true_iff, false_iff, eq_self, iff_true]; unfold wordN; omega
     ·skip
      refine wl_n ?_; refine wl_n ?_; refine wl_g ?_; refine wl_pf ?_; refine wl_pf ?_; refine wl_a ?_; refine wl_nil (nrm_then ?_); refine cw_ret (body_ret1 rfl rfl ?_); refine ⟨congrArg Value.bool (Bool.eq_iff_iff.2 ?_), (Evo.refl [] w)⟩
      simp only [decide_eq_true_eq, Bool.false_eq_true, Bool.true_eq_false, true_iff, false_iff, eq_self, iff_true]; unfold wordN; omega
structure CAt (w : World) (jb : Nat) (nodes caps : Nat) (ns : List ByteArray) (a : Option Addr) (c : Nat) (ob : Option Nat) : Prop where
  blk : w.heap[jb]? = some (.cells #[iv (nodes : Nat), iv (caps : Nat), .slice a ns.length c] 145 (0, 0))
  own : OwnS w 9 1 a ns.length c (ns.map sv) ob
  ne : ∀ g, ob = some g → g ≠ jb
def NameNew (nm : ByteArray) (ns : List ByteArray) : Prop := NameOk nm ∧ (nm = ByteArray.mk #[] ∨ nm ∉ ns)
theorem name_ok {w : World} {jb nodes caps : Nat} {ns : List ByteArray} {a : Option Addr} {c : Nat} {ob : Option Nat} {nm : ByteArray} (hJ : CAt w jb nodes caps ns a c ob) (hl : ns.length ≤ 100000) (hn : nm.size ≤ 140737488351232) :
    Calls Tryz.prog 134 #[.pointer (some ⟨jb, 0, none⟩), .string nm] w (Ret fun v w' => ∃ b, v = .bool b ∧ (b = true ↔ NameNew nm ns) ∧ Evo (jb :: ob.toList) w w' ∧
      (b = true → ∃ a' c' ob', CAt w' jb nodes caps (ns ++ [nm]) a' c' ob' ∧ (ob' = ob ∨ ∃ g, ob' = some g ∧ w.heap.size ≤ g))) := by
  obtain ⟨hB, hO, hne⟩ := hJ
  have hAJN : Apart (some jb) ob := fun g h1 h2 => by cases h1; exact hne jb h2 rfl
  have hlt := blk_lt hB; refine calls_of_cw (N := 51) Tryz.func134 rfl rfl rfl ?_; refine cw_seq ?_; refine cw_region ?_; refine wl_a ?_; refine wl_nil (nrm_then ?_); refine cw_seq ?_; refine cw_seq ?_; refine cw_region ?_; refine wl_a ?_; refine wl_nil (nrm_then ?_); refine cw_block ?_; refine cw_loop (α := Nat) (0) (fun k => [(5, .int .i64 (k : Nat))]) [(0, _), (1, _)] (fun k wr => Evo [] w wr ∧ (k ≤ nm.size ∧ ∀ j, j < k → wordN (sb nm j))) (fun k => nm.size - k) ⟨rfl, trivial⟩ ⟨rfl, rfl, trivial⟩ ⟨Evo.refl _ _, ⟨Nat.zero_le _, fun j h => by omega⟩⟩ ?_; rintro k wr1 ⟨hV2, ⟨hk, hok⟩⟩; show CW _ _ _ _ [(5, _), (0, _), (1, _)] _; have hE3 := (Evo.refl (jb :: ob.toList) w).then hV2; have hB4 := hV2.blk0 hB; have hO5 := hO.evo0 hV2; refine cw_seq ?_; refine cw_seq ?_; refine cw_region ?_; refine wl_m ?_; refine wl_m ?_; refine wl_val rfl (ex_len_str rfl Tryz.underlying9 rfl) ?_; refine wl_val rfl (ex_lss rfl rfl) ?_; refine wl_nil (nrm_then ?_); refine cw_if rfl (fun hc10 => ?_) (fun hc10 => ?_)
  ·skip
   have hk' : k < nm.size := by omega
   refine cw_skip (nrm_then ?_); refine cw_seq ?_; refine cw_block ?_; refine cw_seq ?_; refine cw_region ?_; refine wl_m ?_; refine wl_m ?_; refine wl_val rfl (ex_sidx (n := k) rfl rfl Tryz.underlying9 rfl (by omega)) ?_
   refine wl_val rfl (ex_convF rfl Tryz.underlying5 Tryz.underlying21 (by have := sb_lt nm k; simp [IntKind.min, IntKind.max, IntKind.signed, IntKind.bits] <;> omega) (by have := sb_lt nm k; simp [IntKind.min, IntKind.max, IntKind.signed, IntKind.bits] <;> omega)) ?_
   refine wl_call1 (vs := [_]) Tryz.goes168 rfl (wordRune_ok (sb nm k)) rfl ?_; rintro _ w6 ⟨rfl, hw7⟩; have hE8 := hE3.then hw7; have hE9 := hV2.then hw7; have hB10 := hw7.blk0 hB4; have hO11 := hO5.evo0 hw7; refine wl_val rfl (ex_not rfl) ?_; refine wl_nil (nrm_then ?_); refine cw_if rfl (fun hc18 => ?_) (fun hc18 => ?_)
   ·skip
    refine cw_seq ?_; refine cw_region ?_; refine wl_a ?_; refine wl_nil (nrm_then ?_); refine cw_ret (ret_block (ret_then (ret_then (ret_block (ret_then (body_ret1 rfl rfl ?_))))))
    exact ⟨false, rfl, by simp only [Bool.false_eq_true, false_iff]; exact fun h => hc18 (h.1 k hk'), hE8, fun h => by cases h⟩
   ·skip
    refine cw_skip (nrm_block (nrm_then ?_)); refine cw_region ?_; refine wl_m ?_; refine wl_val rfl (ex_add_i64 rfl rfl (by omega) (by omega)) ?_; refine wl_a ?_; refine wl_nil (nrm_same ?_); refine ⟨k + 1, ?_, ⟨rfl, trivial⟩, ⟨rfl, rfl, trivial⟩, hE9, ?_⟩
    · omega
    ·skip
     refine ⟨by omega, fun j hj => ?_⟩
     by_cases e : j < k
     · exact hok j e
     · obtain rfl : j = k := by omega
       exact Classical.not_not.1 hc18
  ·skip
   refine cw_exit (ex_then (ex_then (ex_here (nrm_then ?_)))); refine cw_seq ?_; refine cw_seq ?_; refine cw_region ?_; refine wl_a ?_; refine wl_nil (nrm_then ?_); refine cw_block ?_; refine cw_loop (α := Nat) (0) (fun l => [(6, .int .i64 (l : Nat))]) [(0, _), (1, _)] (fun l wr => Evo [] wr1 wr ∧ (l ≤ ns.length ∧ ∀ j (hj : j < ns.length), j < l → nm = ByteArray.mk #[] ∨ ¬ ns[j] = nm)) (fun l => ns.length - l) ⟨rfl, trivial⟩ ⟨rfl, rfl, trivial⟩ ⟨Evo.refl _ _, ⟨Nat.zero_le _, fun j _ h => by omega⟩⟩ ?_; rintro l wr12 ⟨hV13, ⟨hl2, hno⟩⟩; show CW _ _ _ _ [(6, _), (0, _), (1, _)] _; have hE14 := hE3.then hV13; have hE15 := hV2.then hV13; have hB16 := hV13.blk0 hB4; have hO17 := hO5.evo0 hV13; refine cw_seq ?_; refine cw_seq ?_; refine cw_region ?_; refine wl_m ?_; refine wl_m ?_; refine wl_val rfl (ex_nilCheck rfl) ?_; refine wl_val rfl (ex_fieldAddr rfl Tryz.fld145_2) ?_; refine wl_val rfl (ex_load1 rfl Tryz.agg26 (cell_nth hB16 rfl)) ?_; refine wl_val rfl (ex_len_slice rfl Tryz.underlying26 rfl) ?_; refine wl_val rfl (ex_lss rfl rfl) ?_; refine wl_nil (nrm_then ?_); refine cw_if rfl (fun hc25 => ?_) (fun hc25 => ?_)
   ·skip
    have hl' : l < ns.length := by omega
    obtain ⟨gN, haN, hcN⟩ := own_strs hO17 (by omega); refine cw_skip (nrm_then ?_); refine cw_seq ?_; refine cw_block ?_; refine cw_seq ?_; refine cw_region ?_; refine wl_m ?_; refine wl_val rfl (ex_neqs rfl rfl) ?_; refine wl_m ?_; refine wl_split (t := 30) rfl (fun hs30 => ?_) (fun hs30 => ?_)
    ·skip
     refine wl_g ?_; refine wl_m ?_; refine wl_g ?_; refine wl_val rfl (ex_nilCheck rfl) ?_; refine wl_g ?_; refine wl_val rfl (ex_fieldAddr rfl Tryz.fld145_2) ?_; refine wl_g ?_; refine wl_val rfl (ex_load1 rfl Tryz.agg26 (cell_nth hB16 rfl)) ?_; refine wl_g ?_; refine wl_m ?_; refine wl_g ?_
     refine wl_val rfl (ex_indexAddr (n := l) (by rw [haN]; rfl) rfl Tryz.elem26 (by omega)) ?_
     refine wl_g ?_; refine wl_val rfl (ex_load1 rfl Tryz.agg9 (hcN l (by omega))) ?_; refine wl_g ?_; refine wl_m ?_; refine wl_g ?_; refine wl_val rfl (ex_eqs rfl rfl) ?_; refine wl_pt ?_; refine wl_nil (nrm_then ?_); refine cw_if rfl (fun hc40 => ?_) (fun hc40 => ?_)
     ·skip
      refine cw_seq ?_; refine cw_region ?_; refine wl_a ?_; refine wl_nil (nrm_then ?_); refine cw_ret (ret_block (ret_then (ret_then (ret_block (ret_then (body_ret1 rfl rfl ?_))))))
      exact ⟨false, rfl, by simp only [Bool.false_eq_true, false_iff]; exact fun h => by rcases h.2 with h1 | h1; exact hs30 h1; exact h1 (hc40 ▸ List.getElem_mem hl'), hE14, fun h => by cases h⟩
     ·skip
      refine cw_skip (nrm_block (nrm_then ?_)); refine cw_region ?_; refine wl_m ?_; refine wl_val rfl (ex_add_i64 rfl rfl (by omega) (by omega)) ?_; refine wl_a ?_; refine wl_nil (nrm_same ?_); refine ⟨l + 1, ?_, ⟨rfl, trivial⟩, ⟨rfl, rfl, trivial⟩, hV13, ?_⟩
      · omega
      ·skip
       refine ⟨by omega, fun j hj hjl => ?_⟩
       by_cases e : j < l
       · exact hno j hj e
       · obtain rfl : j = l := by omega
         first | exact .inl (Classical.not_not.1 hs30) | exact .inr hc40
    ·skip
     refine wl_n ?_; refine wl_n ?_; refine wl_n ?_; refine wl_n ?_; refine wl_n ?_; refine wl_n ?_; refine wl_n ?_; refine wl_n ?_; refine wl_n ?_; refine wl_pf ?_; refine wl_nil (nrm_then ?_); refine cw_false rfl ?_; refine cw_skip (nrm_block (nrm_then ?_)); refine cw_region ?_; refine wl_m ?_; refine wl_val rfl (ex_add_i64 rfl rfl (by omega) (by omega)) ?_; refine wl_a ?_; refine wl_nil (nrm_same ?_); refine ⟨l + 1, ?_, ⟨rfl, trivial⟩, ⟨rfl, rfl, trivial⟩, hV13, ?_⟩
     · omega
     ·skip
      refine ⟨by omega, fun j hj hjl => ?_⟩
      by_cases e : j < l
      · exact hno j hj e
      · exact .inl (Classical.not_not.1 hs30)
   ·skip
    refine cw_exit (ex_then (ex_then (ex_here (nrm_then ?_)))); refine cw_seq ?_; refine cw_region ?_; refine wl_m ?_; refine wl_m ?_; refine wl_val rfl (ex_nilCheck rfl) ?_; refine wl_val rfl (ex_fieldAddr rfl Tryz.fld145_2) ?_; refine wl_val rfl (ex_load1 rfl Tryz.agg26 (cell_nth hB16 rfl)) ?_; refine wl_m ?_; refine wl_bslice (vs := [_]) rfl Tryz.slice26 rfl rfl rfl rfl fun b18 w19 hO20 hs21 hw22 => ?_; have hA23 := Apart.new (Lt.blk hB16) hs21; have hA24 := Apart.new (Lt.own hO17) hs21; have hG25 := Ge.new hE14 hs21; have hG26 := Ge.new hE15 hs21; have hG27 := Ge.new hV13 hs21; have hE28 := hE14.then hw22; have hE29 := hE15.then hw22; have hE30 := hV13.then hw22; have hB31 := hw22.blk0 hB16; have hO32 := hO17.evo0 hw22; have hszg := (hE28).size; refine wl_append rfl rfl rfl rfl Tryz.app26_26 hO32 (Src.ofOwn hO20 ⟨by first | rfl | assumption, trivial⟩) (by omega) fun a2 c2 w35 ob2 hO2 hw38 hob39 => ?_; have hA40 := hAJN.app (Lt.blk hB31) hob39; have hA41 := hA24.symm.app (Lt.own hO20) hob39; have hE42 := hE28.step hw38 (fun y hy => .inl (List.mem_cons_of_mem _ hy)); have hB45 := hw38.blk hB31 hAJN.nmem; have hO46 := hO20.evo hw38 hA24.symm.own; have hob2 : ob2 = ob ∨ ∃ g, ob2 = some g ∧ w.heap.size ≤ g := hob39.imp id (fun ⟨g, h1, h2⟩ => ⟨g, h1, Nat.le_trans hszg h2⟩); refine wl_val rfl (ex_nilCheck rfl) ?_; refine wl_val rfl (ex_fieldAddr rfl Tryz.fld145_2) ?_; refine wl_store1 rfl rfl (by first | rfl | assumption) Tryz.size26 hB45 rfl fun w47 hB48 hw49 => ?_
    have hE50 := hE42.step hw49 (fun y hy => .inl (by rw [List.mem_singleton.1 hy]; exact List.mem_cons_self ..))
    have hO51 := hO46.evo hw49 hA23.symm.own1; have hO52 := hO2.evo hw49 hA40.symm.own1
    try simp only [List.setIfInBounds_toArray, List.set_cons_zero, List.set_cons_succ, Nat.reduceAdd, Nat.zero_add, Nat.add_zero] at hB48
    refine wl_nil (nrm_then ?_); refine cw_seq ?_; refine cw_region ?_; refine wl_a ?_; refine wl_nil (nrm_then ?_); refine cw_ret (body_ret1 rfl rfl ?_); refine ⟨true, rfl, ?_, hE50, fun _ => ⟨a2, c2, ob2, ⟨?_, ?_, own_new hne hlt hob2⟩, hob2⟩⟩
    · simp only [true_iff]; exact ⟨fun j hj => hok j (by omega), name_new (fun j hj => hno j hj (by omega))⟩
    · simp only [List.length_append, List.length_cons, List.length_nil]; exact hB48
    · rw [List.map_append, List.length_append]; exact hO52
end Go.Proofs.YtgnpldackjbdjaaGreat
namespace Go.Proofs.YtgnpldackjbdjaaGreat
open Go.Proofs
open Go.W Go.RowKit
attribute [local irreducible] Decidable.decide
set_option linter.unusedSimpArgs false
set_option linter.unusedVariables false
theorem Tryz.build145 : Build Tryz.prog 145 #[(0, 1), (1, 1), (2, 1)] #[.int .i64 0, .int .i64 0, .slice none 0 0] := ⟨_, .agg #[.int .i64 0, .int .i64 0, .slice none 0 0], Tryz.underlying145, by kernel_rfl, rfl, fun w => by kernel_rfl⟩
theorem Tryz.fld145_0 : fieldB Tryz.prog 145 0 = some 0 := by kernel_rfl
theorem Tryz.fld145_1 : fieldB Tryz.prog 145 1 = some 1 := by kernel_rfl
theorem Tryz.goes84 : Goes Tryz.prog 84 := ⟨_, Tryz.func84, by kernel_rfl, by kernel_rfl⟩
theorem Tryz.goes131 : Goes Tryz.prog 131 := ⟨_, Tryz.func131, by kernel_rfl, by kernel_rfl⟩
theorem Tryz.goes132 : Goes Tryz.prog 132 := ⟨_, Tryz.func132, by kernel_rfl, by kernel_rfl⟩
theorem Tryz.goes133 : Goes Tryz.prog 133 := ⟨_, Tryz.func133, by kernel_rfl, by kernel_rfl⟩
theorem Tryz.goes134 : Goes Tryz.prog 134 := ⟨_, Tryz.func134, by kernel_rfl, by kernel_rfl⟩
theorem Brk.int (a k b : Int) : ∃ z, z = b + (if Brk a k then 1 else 0) := ⟨_, rfl⟩
theorem NodeF.bare {t : Rx} (h : NodeF t) : BareP t := ⟨h.zg, h.leaf, h.zr, h.zm1, h.zm2, h.zl, h.zc, h.zn⟩
theorem leafF {t : Rx} {b : Int} {st : St} (hk : t.kind = 2 ∨ t.kind = 3) (h1 : st.1 + 1 ≤ 8194) (hb : b ≤ 250) (hba : BareP t) :
    ((t.fine b st).isSome = true ↔ (t.kind = 2 → 0 ≤ t.r ∧ t.r ≤ 1114111) ∧ (t.kind = 3 → RangesOk t.ranges)) ∧ ∀ st', t.fine b st = some st' → st' = (st.1 + 1, st.2) := by
  have hks : t.kids = [] := List.length_eq_zero_iff.1 (by have := hba.zk; omega)
  have h7 : ¬ t.kind = 7 := by omega
  by_cases hp : (t.kind = 2 → 0 ≤ t.r ∧ t.r ≤ 1114111) ∧ (t.kind = 3 → RangesOk t.ranges)
  · have hf : NodeP t := (nodeP_iff t).2 ⟨by omega, by omega, hba.zr, hba.zg, hba.zm1, hba.zm2, hba.zl, hba.zc, hba.zn, fun k => (hp.1 k).1, fun k => (hp.1 k).2, hp.2, fun k => by omega, fun k => by omega, fun k => by omega, fun k => by omega, fun k => by omega, fun k => by omega, hba.zk⟩
    have e := fine_yes (x := t) (b := b) (st := st) ⟨h1, by rw [if_neg h7]; exact hb, hf, fun k => (h7 k).elim⟩
    rw [hks, if_neg h7, if_neg h7, fineKids] at e
    rw [e]
    exact ⟨⟨fun _ => hp, fun _ => rfl⟩, fun st' h => by cases h; rfl⟩
  · have e := fine_no (x := t) (b := b) (st := st) (fun h => hp (by have hf := (nodeP_iff t).1 h.2.2.1; exact ⟨fun k => ⟨hf.lit1 k, hf.lit2 k⟩, hf.cls⟩))
    rw [e]
    exact ⟨⟨fun h => (by cases h), fun h => (hp h).elim⟩, fun st' h => by cases h⟩
set_option maxHeartbeats 8000000 in
theorem cvalid_step {n : Nat} (ih : ∀ {w : World} {jb : Nat} {st : St} {a : Option Addr} {c : Nat} {ob : Option Nat} {vs : List Value} {t : Rx} {k b0 : Int} (hJ : CAt w jb st.1 st.2.length st.2 a c ob) (hx : RRx n (jb :: ob.toList) w vs t) (hst : StOk st) (hb0 : 0 ≤ b0) (hb1 : b0 ≤ 251), Calls Tryz.prog 84 #[.pointer (some ⟨jb, 0, none⟩), .agg vs.toArray, .int .i64 k, .int .i64 b0] w (Ret fun v w' => ∃ r, v = .bool r ∧ r = (t.fine (b0 + (if Brk t.kind k then 1 else 0)) st).isSome ∧ Evo (jb :: ob.toList) w w' ∧ ∀ st', t.fine (b0 + (if Brk t.kind k then 1 else 0)) st = some st' → StOk st' ∧ ∃ a' c' ob', CAt w' jb st'.1 st'.2.length st'.2 a' c' ob' ∧ ∀ g, ob' = some g → g ∈ ob.toList ∨ w.heap.size ≤ g)) {w : World} {jb : Nat} {st : St} {a : Option Addr} {c : Nat} {ob : Option Nat} {vs : List Value} {t : Rx} {k b0 : Int} (hJ : CAt w jb st.1 st.2.length st.2 a c ob) (hx : RRx (n + 1) (jb :: ob.toList) w vs t) (hst : StOk st) (hb0 : 0 ≤ b0) (hb1 : b0 ≤ 251) : Calls Tryz.prog 84 #[.pointer (some ⟨jb, 0, none⟩), .agg vs.toArray, .int .i64 k, .int .i64 b0] w (Ret fun v w' => ∃ r, v = .bool r ∧ r = (t.fine (b0 + (if Brk t.kind k then 1 else 0)) st).isSome ∧ Evo (jb :: ob.toList) w w' ∧ ∀ st', t.fine (b0 + (if Brk t.kind k then 1 else 0)) st = some st' → StOk st' ∧ ∃ a' c' ob', CAt w' jb st'.1 st'.2.length st'.2 a' c' ob' ∧ ∀ g, ob' = some g → g ∈ ob.toList ∨ w.heap.size ≤ g) := by
  obtain ⟨b, hb⟩ := Brk.int t.kind k b0; rw [← hb]; obtain ⟨hB, hO, hne⟩ := hJ
  have hAJN : Apart (some jb) ob := fun g h1 h2 => by cases h1; exact hne jb h2 rfl
  have hlt := blk_lt hB; have hst1 := hst.1; have hst2 := hst.2
  have hXlt : ∀ y, y ∈ jb :: ob.toList → y < w.heap.size := fun y hy => by
    rcases List.mem_cons.1 hy with h | h
    · rw [h]; exact hlt
    · have : ob = some y := by simpa using h
      subst this; exact hO.lt
  have hx0 := hx; obtain ⟨m, ra, rc, ka, kc, hm, rfl, hrg, hk, bl1, bl2, bl3⟩ := hx.get
  obtain rfl : m = n := by omega
  have hrg0 := hrg; obtain ⟨_, _, hke, hkc, e1⟩ := hk; cases hke; refine calls_of_cw (N := 169) Tryz.func84 rfl rfl rfl ?_; refine cw_seq ?_; refine cw_region ?_; refine wl_boxA rfl rfl fun b5 w1 hB2 hs3 hw4 => ?_; have hsz_b5 := hs3; have hA5 := Apart.new (Lt.blk hB) hs3; have hA6 := Apart.new (Lt.own hO) hs3; have hG7 := Ge.new (Evo.refl (jb :: ob.toList) w) hs3; have hE8 := (Evo.refl (jb :: ob.toList) w).then hw4; have hB9 := hw4.blk0 hB; have hO10 := hO.evo0 hw4; refine wl_a ?_; refine wl_nil (nrm_then ?_); refine cw_seq ?_; refine cw_region ?_; refine wl_m ?_; refine wl_val rfl (ex_nilCheck rfl) ?_; refine wl_val rfl (ex_fieldAddr rfl Tryz.fld145_0) ?_; refine wl_val rfl (ex_load1 rfl Tryz.agg3 (cell_nth hB9 rfl)) ?_; refine wl_val rfl (ex_add_i64 rfl rfl (by omega) (by omega)) ?_; refine wl_val rfl (ex_nilCheck rfl) ?_; refine wl_val rfl (ex_fieldAddr rfl Tryz.fld145_0) ?_; refine wl_store1 rfl rfl (by first | rfl | assumption) Tryz.size3 hB9 rfl fun w11 hB12 hw13 => ?_
  have hE14 := hE8.step hw13 (fun y hy => .inl (by rw [List.mem_singleton.1 hy]; exact List.mem_cons_self ..))
  have hO15 := hO10.evo hw13 hAJN.symm.own1; have hB16 := hw13.blk hB2 hA5.symm.nmem1
  try simp only [List.setIfInBounds_toArray, List.set_cons_zero, List.set_cons_succ, Nat.reduceAdd, Nat.zero_add, Nat.add_zero] at hB12
  refine wl_nil (nrm_then ?_); refine cw_seq ?_; refine cw_cut (α := Int) (fun z => [(3, .int .i64 z)]) [(0, _), (5, _), (8, _)] (fun z wr => Evo [] w11 wr ∧ (z = b)) ⟨rfl, rfl, rfl, trivial⟩ ?_ ?_
  ·skip
   refine cw_seq ?_; refine cw_region ?_; refine wl_m ?_; refine wl_val rfl (ex_fieldAddr rfl Tryz.fld25_0) ?_; refine wl_val rfl (ex_load1 rfl Tryz.agg3 (cell_nth hB16 rfl)) ?_; refine wl_call1 (vs := [_, _]) Tryz.goes131 rfl (brackets_ok k t.kind) rfl ?_; rintro _ w17 ⟨rfl, hw18⟩; have hE19 := hE14.then hw18; have hE20 := (Evo.refl [] w11).then hw18; have hB21 := hw18.blk0 hB12; have hO22 := hO15.evo0 hw18; have hB23 := hw18.blk0 hB16; refine wl_nil (nrm_then ?_); refine cw_if rfl (fun hc21 => ?_) (fun hc21 => ?_)
   ·skip
    refine cw_region ?_; refine wl_m ?_; refine wl_val rfl (ex_add_i64 rfl rfl (by omega) (by omega)) ?_; refine wl_a ?_; refine wl_nil (nrm_same ?_); refine ⟨(b0 + 1), ⟨rfl, trivial⟩, ⟨rfl, rfl, rfl, trivial⟩, hE20, ?_⟩; rw [hb, if_pos hc21]
   ·skip
    refine cw_skip (nrm_same ?_); refine ⟨b0, ⟨rfl, trivial⟩, ⟨rfl, rfl, rfl, trivial⟩, hE20, ?_⟩
    rw [hb, if_neg hc21]; omega
  ·skip
   rintro z w24 ⟨hV25, hz⟩; refine nrm_then ?_; show CW _ _ _ _ [(3, _), (0, _), (5, _), (8, _)] _; have hE26 := hE14.then hV25; have hB27 := hV25.blk0 hB12; have hO28 := hO15.evo0 hV25; have hB29 := hV25.blk0 hB16; refine cw_seq ?_; refine cw_seq ?_; refine cw_region ?_; refine wl_m ?_; refine wl_val rfl (ex_nilCheck rfl) ?_; refine wl_val rfl (ex_fieldAddr rfl Tryz.fld145_0) ?_; refine wl_val rfl (ex_load1 rfl Tryz.agg3 (cell_nth hB27 rfl)) ?_; refine wl_val rfl (ex_gtr rfl rfl) ?_; refine wl_m ?_; refine wl_split (t := 29) rfl (fun hs29 => ?_) (fun hs29 => ?_)
   ·skip
    refine wl_n ?_; refine wl_n ?_; refine wl_pt ?_; refine wl_m ?_; refine wl_n ?_; refine wl_n ?_; refine wl_n ?_; refine wl_pt ?_; refine wl_m ?_; refine wl_n ?_; refine wl_n ?_; refine wl_n ?_; refine wl_pt ?_; refine wl_m ?_; refine wl_n ?_; refine wl_n ?_; refine wl_n ?_; refine wl_pt ?_; refine wl_nil (nrm_then ?_); refine cw_true rfl ?_; refine cw_seq ?_; refine cw_region ?_; refine wl_a ?_; refine wl_nil (nrm_then ?_); refine cw_ret (ret_then (body_ret1 rfl rfl ?_))
    have hno := fine_no (x := t) (b := b) (st := st) (fun h => by obtain ⟨h1, h2, h3, h4⟩ := h; have hf := (nodeP_iff t).1 h3; (omega))
    exact ⟨false, rfl, by rw [hno]; rfl, hE26, fun st' h => by rw [hno] at h; cases h⟩
   ·skip
    refine wl_g ?_; refine wl_m ?_; refine wl_g ?_; refine wl_val rfl (ex_gtr rfl rfl) ?_; refine wl_pf ?_; refine wl_m ?_; refine wl_split (t := 33) rfl (fun hs33 => ?_) (fun hs33 => ?_)
    ·skip
     refine wl_n ?_; refine wl_n ?_; refine wl_n ?_; refine wl_pt ?_; refine wl_m ?_; refine wl_n ?_; refine wl_n ?_; refine wl_n ?_; refine wl_pt ?_; refine wl_m ?_; refine wl_n ?_; refine wl_n ?_; refine wl_n ?_; refine wl_pt ?_; refine wl_nil (nrm_then ?_); refine cw_true rfl ?_; refine cw_seq ?_; refine cw_region ?_; refine wl_a ?_; refine wl_nil (nrm_then ?_); refine cw_ret (ret_then (body_ret1 rfl rfl ?_))
     have hno := fine_no (x := t) (b := b) (st := st) (fun h => by obtain ⟨h1, h2, h3, h4⟩ := h; have hf := (nodeP_iff t).1 h3; (split at h2 <;> omega))
     exact ⟨false, rfl, by rw [hno]; rfl, hE26, fun st' h => by rw [hno] at h; cases h⟩
    ·skip
     refine wl_g ?_; refine wl_val rfl (ex_fieldAddr rfl Tryz.fld25_0) ?_; refine wl_g ?_; refine wl_val rfl (ex_load1 rfl Tryz.agg3 (cell_nth hB29 rfl)) ?_; refine wl_g ?_; refine wl_val rfl (ex_lss rfl rfl) ?_; refine wl_pf ?_; refine wl_m ?_; refine wl_split (t := 38) rfl (fun hs38 => ?_) (fun hs38 => ?_)
     ·skip
      refine wl_n ?_; refine wl_n ?_; refine wl_n ?_; refine wl_pt ?_; refine wl_m ?_; refine wl_n ?_; refine wl_n ?_; refine wl_n ?_; refine wl_pt ?_; refine wl_nil (nrm_then ?_); refine cw_true rfl ?_; refine cw_seq ?_; refine cw_region ?_; refine wl_a ?_; refine wl_nil (nrm_then ?_); refine cw_ret (ret_then (body_ret1 rfl rfl ?_))
      have hno := fine_no (x := t) (b := b) (st := st) (fun h => by obtain ⟨h1, h2, h3, h4⟩ := h; have hf := (nodeP_iff t).1 h3; (have := hf.kind1; omega))
      exact ⟨false, rfl, by rw [hno]; rfl, hE26, fun st' h => by rw [hno] at h; cases h⟩
     ·skip
      refine wl_g ?_; refine wl_val rfl (ex_fieldAddr rfl Tryz.fld25_0) ?_; refine wl_g ?_; refine wl_val rfl (ex_load1 rfl Tryz.agg3 (cell_nth hB29 rfl)) ?_; refine wl_g ?_; refine wl_val rfl (ex_gtr rfl rfl) ?_; refine wl_pf ?_; refine wl_m ?_; refine wl_split (t := 43) rfl (fun hs43 => ?_) (fun hs43 => ?_)
      ·skip
       refine wl_n ?_; refine wl_n ?_; refine wl_n ?_; refine wl_pt ?_; refine wl_nil (nrm_then ?_); refine cw_true rfl ?_; refine cw_seq ?_; refine cw_region ?_; refine wl_a ?_; refine wl_nil (nrm_then ?_); refine cw_ret (ret_then (body_ret1 rfl rfl ?_))
       have hno := fine_no (x := t) (b := b) (st := st) (fun h => by obtain ⟨h1, h2, h3, h4⟩ := h; have hf := (nodeP_iff t).1 h3; (have := hf.kind2; omega))
       exact ⟨false, rfl, by rw [hno]; rfl, hE26, fun st' h => by rw [hno] at h; cases h⟩
      ·skip
       refine wl_g ?_; refine wl_val rfl (ex_loadBlk rfl Tryz.agg25 Tryz.size25 hB29 rfl) ?_; refine wl_g ?_; refine wl_call1 (vs := [_]) Tryz.goes132 rfl (bare_ok (RRx.pers _ _ _ _ _ _ hE26 hx0)) rfl ?_; rintro _ w30 ⟨bb, rfl, hbb, hw31⟩; have hE32 := hE26.then hw31; have hB33 := hw31.blk0 hB27; have hO34 := hO28.evo0 hw31; have hB35 := hw31.blk0 hB29; refine wl_g ?_; refine wl_val rfl (ex_notb rfl) ?_; refine wl_pf ?_; refine wl_nil (nrm_then ?_); refine cw_ifb rfl (fun hc47 => ?_) (fun hc47 => ?_)
       ·skip
        refine cw_seq ?_; refine cw_region ?_; refine wl_a ?_; refine wl_nil (nrm_then ?_); refine cw_ret (ret_then (body_ret1 rfl rfl ?_))
        have hno := fine_no (x := t) (b := b) (st := st) (fun h => by obtain ⟨h1, h2, h3, h4⟩ := h; have hf := (nodeP_iff t).1 h3; (have := hbb.2 hf.bare; rw [this] at hc47; cases hc47))
        exact ⟨false, rfl, by rw [hno]; rfl, hE32, fun st' h => by rw [hno] at h; cases h⟩
       ·skip
        refine cw_skip (nrm_then ?_); refine cw_seq ?_; refine cw_cut (α := Int × St × Option Addr × Nat × Option Nat) (fun x => [(3, .int .i64 x.1)]) [(0, _), (5, _)] (fun x wr => Evo (jb :: ob.toList) w wr ∧ ((0 ≤ x.1 ∧ x.1 ≤ 250) ∧ x.2.1 = (st.1 + 1, if t.kind = 7 then st.2 ++ [t.name] else st.2) ∧ t.fine b st = fineKids t.kids t.kind x.1 x.2.1 ∧ CAt wr jb x.2.1.1 x.2.1.2.length x.2.1.2 x.2.2.1 x.2.2.2.1 x.2.2.2.2 ∧ (∀ g, x.2.2.2.2 = some g → g ∈ ob.toList ∨ w.heap.size ≤ g) ∧ wr.heap[b5]? = some (.cells #[iv t.kind, .int .i32 t.r, .slice ra t.ranges.length rc, iv t.min, iv t.max, .bool t.lazy, iv t.cap, .string t.name, .slice ka t.kids.length kc] 25 (0, 0)) ∧ b5 ∉ jb :: x.2.2.2.2.toList)) ⟨rfl, rfl, trivial⟩ ?_ ?_
        ·skip
         refine cw_seq ?_; have hba := hbb.1 (by simpa using hc47); refine cw_region ?_; refine wl_val rfl (ex_fieldAddr rfl Tryz.fld25_0) ?_; refine wl_val rfl (ex_load1 rfl Tryz.agg3 (cell_nth hB35 rfl)) ?_; refine wl_nil (nrm_then ?_); refine cw_block ?_; refine cw_seq ?_; refine cw_region ?_; refine wl_val rfl (ex_eql rfl rfl) ?_; refine wl_a ?_; refine wl_nil (nrm_then ?_); refine cw_if rfl (fun hc50 => ?_) (fun hc50 => ?_)
         ·skip
          refine cw_seq ?_; refine cw_region ?_; refine wl_val rfl (ex_fieldAddr rfl Tryz.fld25_1) ?_; refine wl_val rfl (ex_load1 rfl Tryz.agg21 (cell_nth hB35 rfl)) ?_; refine wl_val rfl (ex_geq rfl rfl) ?_; refine wl_m ?_; refine wl_split (t := 55) rfl (fun hs55 => ?_) (fun hs55 => ?_)
          ·skip
           refine wl_g ?_; refine wl_val rfl (ex_fieldAddr rfl Tryz.fld25_1) ?_; refine wl_g ?_; refine wl_val rfl (ex_load1 rfl Tryz.agg21 (cell_nth hB35 rfl)) ?_; refine wl_g ?_; refine wl_val rfl (ex_leq rfl rfl) ?_; refine wl_pt ?_; refine wl_a ?_; refine wl_nil (nrm_then ?_); refine cw_ret (ret_block (ret_then (ret_then (body_ret1 rfl rfl ?_)))); have hlf := leafF (t := t) (b := b) (st := st) (by omega) (by omega) (by omega) hba
           refine ⟨_, rfl, Bool.eq_iff_iff.2 (by rw [hlf.1]; simp only [decide_eq_true_eq]; exact ⟨fun h => ⟨fun _ => ⟨by omega, h⟩, fun h => by omega⟩, fun h => (h.1 (by omega)).2⟩), hE32, fun st' h => ?_⟩
           rw [hlf.2 st' h]
           exact ⟨⟨by show st.2.length ≤ st.1 + 1; omega, by show st.1 + 1 ≤ 8194; omega⟩, a, c, ob, ⟨hB33, hO34, hne⟩, fun g hg => .inl (by simp [hg])⟩
          ·skip
           refine wl_n ?_; refine wl_n ?_; refine wl_n ?_; refine wl_pf ?_; refine wl_a ?_; refine wl_nil (nrm_then ?_); refine cw_ret (ret_block (ret_then (ret_then (body_ret1 rfl rfl ?_)))); have hlf := leafF (t := t) (b := b) (st := st) (by omega) (by omega) (by omega) hba
           refine ⟨_, rfl, Bool.eq_iff_iff.2 (by rw [hlf.1]; simp only [Bool.false_eq_true, false_iff]; intro h; have := h.1 (by omega); omega), hE32, fun st' h => ?_⟩
           rw [hlf.2 st' h]
           exact ⟨⟨by show st.2.length ≤ st.1 + 1; omega, by show st.1 + 1 ≤ 8194; omega⟩, a, c, ob, ⟨hB33, hO34, hne⟩, fun g hg => .inl (by simp [hg])⟩
         ·skip
          refine cw_seq ?_; refine cw_region ?_; refine wl_val rfl (ex_eql rfl rfl) ?_; refine wl_a ?_; refine wl_nil (nrm_then ?_); refine cw_if rfl (fun hc60 => ?_) (fun hc60 => ?_)
          ·skip
           refine cw_seq ?_; refine cw_region ?_; refine wl_val rfl (ex_fieldAddr rfl Tryz.fld25_2) ?_; refine wl_val rfl (ex_load1 rfl Tryz.agg22 (cell_nth hB35 rfl)) ?_; refine wl_call1 (vs := [_]) Tryz.goes133 rfl (ranges_ok (RSl.evo RRg.pers hE32 hrg0) bl1) rfl ?_; rintro _ w36 ⟨rb, rfl, hrb, hw37⟩; have hE38 := hE32.then hw37; have hB39 := hw37.blk0 hB33; have hO40 := hO34.evo0 hw37; have hB41 := hw37.blk0 hB35; refine wl_a ?_; refine wl_nil (nrm_then ?_); refine cw_ret (ret_block (ret_then (ret_then (body_ret1 rfl rfl ?_)))); have hlf := leafF (t := t) (b := b) (st := st) (by omega) (by omega) (by omega) hba
           refine ⟨_, rfl, Bool.eq_iff_iff.2 (by rw [hlf.1]; rw [hrb]; exact ⟨fun h => ⟨fun h => by omega, fun _ => h⟩, fun h => h.2 (by omega)⟩), hE38, fun st' h => ?_⟩
           rw [hlf.2 st' h]
           exact ⟨⟨by show st.2.length ≤ st.1 + 1; omega, by show st.1 + 1 ≤ 8194; omega⟩, a, c, ob, ⟨hB39, hO40, hne⟩, fun g hg => .inl (by simp [hg])⟩
          ·skip
           refine cw_seq ?_; refine cw_seq ?_; refine cw_region ?_; refine wl_val rfl (ex_eql rfl rfl) ?_; refine wl_a ?_; refine wl_nil (nrm_then ?_); refine cw_if rfl (fun hc65 => ?_) (fun hc65 => ?_)
           ·skip
            refine cw_skip (nrm_then ?_); refine cw_if rfl (fun hc65 => ?_) (fun hc65 => ?_)
            ·skip
             refine cw_seq ?_; refine cw_region ?_; refine wl_val rfl (ex_fieldAddr rfl Tryz.fld25_8) ?_; refine wl_val rfl (ex_load1 rfl Tryz.agg23 (cell_nth hB35 rfl)) ?_; refine wl_val rfl (ex_len_slice rfl Tryz.underlying23 rfl) ?_; refine wl_val rfl (ex_lss rfl rfl) ?_; refine wl_nil (nrm_then ?_); refine cw_if rfl (fun hc71 => ?_) (fun hc71 => ?_)
             ·skip
              refine cw_seq ?_; refine cw_region ?_; refine wl_a ?_; refine wl_nil (nrm_then ?_); refine cw_ret (ret_block (ret_then (ret_then (body_ret1 rfl rfl ?_))))
              have hno := fine_no (x := t) (b := b) (st := st) (fun h => by obtain ⟨h1, h2, h3, h4⟩ := h; have hf := (nodeP_iff t).1 h3; (have := hf.two; omega))
              exact ⟨false, rfl, by rw [hno]; rfl, hE32, fun st' h => by rw [hno] at h; cases h⟩
             ·skip
              refine cw_skip (nrm_block (nrm_same ?_)); refine ⟨(z, (st.1 + 1, st.2), a, c, ob), ⟨rfl, trivial⟩, ⟨rfl, rfl, trivial⟩, hE32, ?_⟩
              have hfin0 := fine_yes (x := t) (b := b) (st := st) ⟨by omega, (by rw [if_neg (by omega)]; omega), (nodeP_iff t).2 ⟨by omega, by omega, hba.zr, hba.zg, hba.zm1, hba.zm2, hba.zl, hba.zc, hba.zn, fun k => by omega, fun k => by omega, fun k => by omega, fun k => by omega, fun k => by omega, fun k => by omega, fun k => by omega, fun k => by omega, fun k => by omega, hba.zk⟩, fun h => by omega⟩
              refine ⟨by simp only; omega, by simp only; rw [if_neg (by omega)], ?_, ?_, fun g hg => .inl (by have h9 : ob = some g := hg; simp [h9]), hB35, nmem2 hA5.symm hA6.symm⟩
              · rw [hfin0, if_neg (by omega), if_neg (by omega), hz]
              · exact ⟨by simpa [List.length_append] using hB33, hO34, hne⟩
            ·skip
             refine cw_seq ?_; refine cw_region ?_; refine wl_val rfl (ex_eql rfl rfl) ?_; refine wl_a ?_; refine wl_nil (nrm_then ?_); refine cw_if rfl (fun hc72 => ?_) (fun hc72 => ?_)
             ·skip
              refine cw_seq ?_; refine cw_region ?_; refine wl_val rfl (ex_fieldAddr rfl Tryz.fld25_8) ?_; refine wl_val rfl (ex_load1 rfl Tryz.agg23 (cell_nth hB35 rfl)) ?_; refine wl_val rfl (ex_len_slice rfl Tryz.underlying23 rfl) ?_; refine wl_val rfl (ex_neq rfl rfl) ?_; refine wl_m ?_; refine wl_split (t := 78) rfl (fun hs78 => ?_) (fun hs78 => ?_)
              ·skip
               refine wl_n ?_; refine wl_n ?_; refine wl_n ?_; refine wl_pt ?_; refine wl_m ?_; refine wl_n ?_; refine wl_n ?_; refine wl_n ?_; refine wl_pt ?_; refine wl_m ?_; refine wl_n ?_; refine wl_n ?_; refine wl_n ?_; refine wl_pt ?_; refine wl_m ?_; refine wl_n ?_; refine wl_n ?_; refine wl_n ?_; refine wl_pt ?_; refine wl_m ?_; refine wl_n ?_; refine wl_n ?_; refine wl_n ?_; refine wl_n ?_; refine wl_u ?_; refine wl_u ?_; refine wl_u ?_; refine wl_u ?_; refine wl_u ?_; refine wl_n ?_; refine wl_pt ?_; refine wl_nil (nrm_then ?_); refine cw_true rfl ?_; refine cw_seq ?_; refine cw_region ?_; refine wl_a ?_; refine wl_nil (nrm_then ?_); refine cw_ret (ret_block (ret_then (ret_then (body_ret1 rfl rfl ?_))))
               have hno := fine_no (x := t) (b := b) (st := st) (fun h => by obtain ⟨h1, h2, h3, h4⟩ := h; have hf := (nodeP_iff t).1 h3; (have f1 := hf.rep1; have f2 := hf.rep2; have f3 := hf.rep3; have f4 := hf.rep4; omega))
               exact ⟨false, rfl, by rw [hno]; rfl, hE32, fun st' h => by rw [hno] at h; cases h⟩
              ·skip
               refine wl_g ?_; refine wl_val rfl (ex_fieldAddr rfl Tryz.fld25_3) ?_; refine wl_g ?_; refine wl_val rfl (ex_load1 rfl Tryz.agg3 (cell_nth hB35 rfl)) ?_; refine wl_g ?_; refine wl_val rfl (ex_lss rfl rfl) ?_; refine wl_pf ?_; refine wl_m ?_; refine wl_split (t := 83) rfl (fun hs83 => ?_) (fun hs83 => ?_)
               ·skip
                refine wl_n ?_; refine wl_n ?_; refine wl_n ?_; refine wl_pt ?_; refine wl_m ?_; refine wl_n ?_; refine wl_n ?_; refine wl_n ?_; refine wl_pt ?_; refine wl_m ?_; refine wl_n ?_; refine wl_n ?_; refine wl_n ?_; refine wl_pt ?_; refine wl_m ?_; refine wl_n ?_; refine wl_n ?_; refine wl_n ?_; refine wl_n ?_; refine wl_u ?_; refine wl_u ?_; refine wl_u ?_; refine wl_u ?_; refine wl_u ?_; refine wl_n ?_; refine wl_pt ?_; refine wl_nil (nrm_then ?_); refine cw_true rfl ?_; refine cw_seq ?_; refine cw_region ?_; refine wl_a ?_; refine wl_nil (nrm_then ?_); refine cw_ret (ret_block (ret_then (ret_then (body_ret1 rfl rfl ?_))))
                have hno := fine_no (x := t) (b := b) (st := st) (fun h => by obtain ⟨h1, h2, h3, h4⟩ := h; have hf := (nodeP_iff t).1 h3; (have f1 := hf.rep1; have f2 := hf.rep2; have f3 := hf.rep3; have f4 := hf.rep4; omega))
                exact ⟨false, rfl, by rw [hno]; rfl, hE32, fun st' h => by rw [hno] at h; cases h⟩
               ·skip
                refine wl_g ?_; refine wl_val rfl (ex_fieldAddr rfl Tryz.fld25_3) ?_; refine wl_g ?_; refine wl_val rfl (ex_load1 rfl Tryz.agg3 (cell_nth hB35 rfl)) ?_; refine wl_g ?_; refine wl_val rfl (ex_gtr rfl rfl) ?_; refine wl_pf ?_; refine wl_m ?_; refine wl_split (t := 88) rfl (fun hs88 => ?_) (fun hs88 => ?_)
                ·skip
                 refine wl_n ?_; refine wl_n ?_; refine wl_n ?_; refine wl_pt ?_; refine wl_m ?_; refine wl_n ?_; refine wl_n ?_; refine wl_n ?_; refine wl_pt ?_; refine wl_m ?_; refine wl_n ?_; refine wl_n ?_; refine wl_n ?_; refine wl_n ?_; refine wl_u ?_; refine wl_u ?_; refine wl_u ?_; refine wl_u ?_; refine wl_u ?_; refine wl_n ?_; refine wl_pt ?_; refine wl_nil (nrm_then ?_); refine cw_true rfl ?_; refine cw_seq ?_; refine cw_region ?_; refine wl_a ?_; refine wl_nil (nrm_then ?_); refine cw_ret (ret_block (ret_then (ret_then (body_ret1 rfl rfl ?_))))
                 have hno := fine_no (x := t) (b := b) (st := st) (fun h => by obtain ⟨h1, h2, h3, h4⟩ := h; have hf := (nodeP_iff t).1 h3; (have f1 := hf.rep1; have f2 := hf.rep2; have f3 := hf.rep3; have f4 := hf.rep4; omega))
                 exact ⟨false, rfl, by rw [hno]; rfl, hE32, fun st' h => by rw [hno] at h; cases h⟩
                ·skip
                 refine wl_g ?_; refine wl_val rfl (ex_fieldAddr rfl Tryz.fld25_4) ?_; refine wl_g ?_; refine wl_val rfl (ex_load1 rfl Tryz.agg3 (cell_nth hB35 rfl)) ?_; refine wl_g ?_; refine wl_val rfl (ex_lss rfl rfl) ?_; refine wl_pf ?_; refine wl_m ?_; refine wl_split (t := 93) rfl (fun hs93 => ?_) (fun hs93 => ?_)
                 ·skip
                  refine wl_n ?_; refine wl_n ?_; refine wl_n ?_; refine wl_pt ?_; refine wl_m ?_; refine wl_n ?_; refine wl_n ?_; refine wl_n ?_; refine wl_n ?_; refine wl_u ?_; refine wl_u ?_; refine wl_u ?_; refine wl_u ?_; refine wl_u ?_; refine wl_n ?_; refine wl_pt ?_; refine wl_nil (nrm_then ?_); refine cw_true rfl ?_; refine cw_seq ?_; refine cw_region ?_; refine wl_a ?_; refine wl_nil (nrm_then ?_); refine cw_ret (ret_block (ret_then (ret_then (body_ret1 rfl rfl ?_))))
                  have hno := fine_no (x := t) (b := b) (st := st) (fun h => by obtain ⟨h1, h2, h3, h4⟩ := h; have hf := (nodeP_iff t).1 h3; (have f1 := hf.rep1; have f2 := hf.rep2; have f3 := hf.rep3; have f4 := hf.rep4; omega))
                  exact ⟨false, rfl, by rw [hno]; rfl, hE32, fun st' h => by rw [hno] at h; cases h⟩
                 ·skip
                  refine wl_g ?_; refine wl_val rfl (ex_fieldAddr rfl Tryz.fld25_4) ?_; refine wl_g ?_; refine wl_val rfl (ex_load1 rfl Tryz.agg3 (cell_nth hB35 rfl)) ?_; refine wl_g ?_; refine wl_val rfl (ex_gtr rfl rfl) ?_; refine wl_pf ?_; refine wl_m ?_; refine wl_split (t := 98) rfl (fun hs98 => ?_) (fun hs98 => ?_)
                  ·skip
                   refine wl_n ?_; refine wl_n ?_; refine wl_n ?_; refine wl_n ?_; refine wl_u ?_; refine wl_u ?_; refine wl_u ?_; refine wl_u ?_; refine wl_u ?_; refine wl_n ?_; refine wl_pt ?_; refine wl_nil (nrm_then ?_); refine cw_true rfl ?_; refine cw_seq ?_; refine cw_region ?_; refine wl_a ?_; refine wl_nil (nrm_then ?_); refine cw_ret (ret_block (ret_then (ret_then (body_ret1 rfl rfl ?_))))
                   have hno := fine_no (x := t) (b := b) (st := st) (fun h => by obtain ⟨h1, h2, h3, h4⟩ := h; have hf := (nodeP_iff t).1 h3; (have f1 := hf.rep1; have f2 := hf.rep2; have f3 := hf.rep3; have f4 := hf.rep4; omega))
                   exact ⟨false, rfl, by rw [hno]; rfl, hE32, fun st' h => by rw [hno] at h; cases h⟩
                  ·skip
                   refine wl_g ?_; refine wl_val rfl (ex_fieldAddr rfl Tryz.fld25_4) ?_; refine wl_g ?_; refine wl_val rfl (ex_load1 rfl Tryz.agg3 (cell_nth hB35 rfl)) ?_; refine wl_g ?_; refine wl_val rfl (ex_geq rfl rfl) ?_; refine wl_g ?_; refine wl_m ?_; refine wl_split (t := 102) rfl (fun hs102 => ?_) (fun hs102 => ?_)
                   ·skip
                    refine wl_g ?_; refine wl_val rfl (ex_fieldAddr rfl Tryz.fld25_4) ?_; refine wl_g ?_; refine wl_val rfl (ex_load1 rfl Tryz.agg3 (cell_nth hB35 rfl)) ?_; refine wl_g ?_; refine wl_val rfl (ex_fieldAddr rfl Tryz.fld25_3) ?_; refine wl_g ?_; refine wl_val rfl (ex_load1 rfl Tryz.agg3 (cell_nth hB35 rfl)) ?_; refine wl_g ?_; refine wl_val rfl (ex_lss rfl rfl) ?_; refine wl_g ?_; refine wl_pt ?_; refine wl_pf ?_; refine wl_nil (nrm_then ?_); refine cw_if rfl (fun hc109 => ?_) (fun hc109 => ?_)
                    ·skip
                     refine cw_seq ?_; refine cw_region ?_; refine wl_a ?_; refine wl_nil (nrm_then ?_); refine cw_ret (ret_block (ret_then (ret_then (body_ret1 rfl rfl ?_))))
                     have hno := fine_no (x := t) (b := b) (st := st) (fun h => by obtain ⟨h1, h2, h3, h4⟩ := h; have hf := (nodeP_iff t).1 h3; (have f1 := hf.rep1; have f2 := hf.rep2; have f3 := hf.rep3; have f4 := hf.rep4; omega))
                     exact ⟨false, rfl, by rw [hno]; rfl, hE32, fun st' h => by rw [hno] at h; cases h⟩
                    ·skip
                     refine cw_skip (nrm_block (nrm_same ?_)); refine ⟨(z, (st.1 + 1, st.2), a, c, ob), ⟨rfl, trivial⟩, ⟨rfl, rfl, trivial⟩, hE32, ?_⟩
                     have hfin0 := fine_yes (x := t) (b := b) (st := st) ⟨by omega, (by rw [if_neg (by omega)]; omega), (nodeP_iff t).2 ⟨by omega, by omega, hba.zr, hba.zg, hba.zm1, hba.zm2, hba.zl, hba.zc, hba.zn, fun k => by omega, fun k => by omega, fun k => by omega, fun k => by omega, fun k => by omega, fun k => by omega, fun k => by omega, fun k => by omega, fun k => by omega, hba.zk⟩, fun h => by omega⟩
                     refine ⟨by simp only; omega, by simp only; rw [if_neg (by omega)], ?_, ?_, fun g hg => .inl (by have h9 : ob = some g := hg; simp [h9]), hB35, nmem2 hA5.symm hA6.symm⟩
                     · rw [hfin0, if_neg (by omega), if_neg (by omega), hz]
                     · exact ⟨by simpa [List.length_append] using hB33, hO34, hne⟩
                   ·skip
                    refine wl_n ?_; refine wl_n ?_; refine wl_n ?_; refine wl_n ?_; refine wl_n ?_; refine wl_g ?_; refine wl_pf ?_; refine wl_pf ?_; refine wl_nil (nrm_then ?_); refine cw_false rfl ?_; refine cw_skip (nrm_block (nrm_same ?_)); refine ⟨(z, (st.1 + 1, st.2), a, c, ob), ⟨rfl, trivial⟩, ⟨rfl, rfl, trivial⟩, hE32, ?_⟩
                    have hfin0 := fine_yes (x := t) (b := b) (st := st) ⟨by omega, (by rw [if_neg (by omega)]; omega), (nodeP_iff t).2 ⟨by omega, by omega, hba.zr, hba.zg, hba.zm1, hba.zm2, hba.zl, hba.zc, hba.zn, fun k => by omega, fun k => by omega, fun k => by omega, fun k => by omega, fun k => by omega, fun k => by omega, fun k => by omega, fun k => by omega, fun k => by omega, hba.zk⟩, fun h => by omega⟩
                    refine ⟨by simp only; omega, by simp only; rw [if_neg (by omega)], ?_, ?_, fun g hg => .inl (by have h9 : ob = some g := hg; simp [h9]), hB35, nmem2 hA5.symm hA6.symm⟩
                    · rw [hfin0, if_neg (by omega), if_neg (by omega), hz]
                    · exact ⟨by simpa [List.length_append] using hB33, hO34, hne⟩
             ·skip
              refine cw_seq ?_; refine cw_region ?_; refine wl_val rfl (ex_eql rfl rfl) ?_; refine wl_a ?_; refine wl_nil (nrm_then ?_); refine cw_if rfl (fun hc110 => ?_) (fun hc110 => ?_)
              ·skip
               refine cw_seq ?_; refine cw_region ?_; refine wl_m ?_; refine wl_val rfl (ex_nilCheck rfl) ?_; refine wl_val rfl (ex_fieldAddr rfl Tryz.fld145_1) ?_; refine wl_val rfl (ex_load1 rfl Tryz.agg3 (cell_nth hB33 rfl)) ?_; refine wl_val rfl (ex_add_i64 rfl rfl (by omega) (by omega)) ?_; refine wl_val rfl (ex_nilCheck rfl) ?_; refine wl_val rfl (ex_fieldAddr rfl Tryz.fld145_1) ?_; refine wl_store1 rfl rfl (by first | rfl | assumption) Tryz.size3 hB33 rfl fun w42 hB43 hw44 => ?_
               have hE45 := hE32.step hw44 (fun y hy => .inl (by rw [List.mem_singleton.1 hy]; exact List.mem_cons_self ..))
               have hO46 := hO34.evo hw44 hAJN.symm.own1; have hB47 := hw44.blk hB35 hA5.symm.nmem1
               try simp only [List.setIfInBounds_toArray, List.set_cons_zero, List.set_cons_succ, Nat.reduceAdd, Nat.zero_add, Nat.add_zero] at hB43
               refine wl_nil (nrm_then ?_); refine cw_seq ?_; refine cw_seq ?_; refine cw_any (fun w0 w' => Evo (jb :: ob.toList) w0 w') (by kernel_rfl) (fun w48 hw49 => ?_); have hE50 := hE45.then hw49; have hB51 := hw49.blk0 hB43; have hO52 := hO46.evo0 hw49; have hB53 := hw49.blk0 hB47; refine ae_take 0 rfl (by kernel_rfl) (by kernel_rfl) (by kernel_rfl) rfl (fun _ hS => ex_fieldAddr rfl Tryz.fld25_8) (Evo.refl (jb :: ob.toList) w48) ?_; refine ae_take 1 rfl (by kernel_rfl) (by kernel_rfl) (by kernel_rfl) rfl (fun _ hS => ex_load1 rfl Tryz.agg23 (cell_nth (hS.blk hB53 (nmem2 hA5.symm hA6.symm)) rfl)) (Evo.refl (jb :: ob.toList) w48) ?_; refine ae_take 2 rfl (by kernel_rfl) (by kernel_rfl) (by kernel_rfl) rfl (fun _ hS => ex_len_slice rfl Tryz.underlying23 rfl) (Evo.refl (jb :: ob.toList) w48) ?_; refine ae_take 3 rfl (by kernel_rfl) (by kernel_rfl) (by kernel_rfl) rfl (fun _ hS => ex_neq rfl rfl) (Evo.refl (jb :: ob.toList) w48) ?_; refine ae_take 4 rfl (by kernel_rfl) (by kernel_rfl) (by kernel_rfl) rfl (fun _ hS => ex_move rfl) (Evo.refl (jb :: ob.toList) w48) ?_; refine ae_split (t := 123) rfl (fun hs123 => ?_) (fun hs123 => ?_)
               ·skip
                refine ae_takeN 5 rfl rfl rfl rfl rfl rfl (by kernel_rfl) (by kernel_rfl) (by kernel_rfl) rfl (Evo.refl (jb :: ob.toList) w48) ?_; refine ae_takeN 6 rfl rfl rfl rfl rfl rfl (by kernel_rfl) (by kernel_rfl) (by kernel_rfl) rfl (Evo.refl (jb :: ob.toList) w48) ?_; refine ae_takeN 7 rfl rfl rfl rfl rfl rfl (by kernel_rfl) (by kernel_rfl) (by kernel_rfl) rfl (Evo.refl (jb :: ob.toList) w48) ?_; refine ae_takeN 8 rfl rfl rfl rfl rfl rfl (by kernel_rfl) (by kernel_rfl) (by kernel_rfl) rfl (Evo.refl (jb :: ob.toList) w48) ?_; refine ae_takeN 9 rfl rfl rfl rfl rfl rfl (by kernel_rfl) (by kernel_rfl) (by kernel_rfl) rfl (Evo.refl (jb :: ob.toList) w48) ?_; refine ae_loud [10] (by kernel_rfl) rfl ⟨?_, trivial⟩; refine a_step rfl ?_; refine wl_n ?_; refine wl_nil (ae_next (.inl (Evo.refl (jb :: ob.toList) w48)) ?_); refine ae_takeN 11 rfl rfl rfl rfl rfl rfl (by kernel_rfl) (by kernel_rfl) (by kernel_rfl) rfl (Evo.refl (jb :: ob.toList) w48) ?_; refine ae_take 12 rfl (by kernel_rfl) (by kernel_rfl) (by kernel_rfl) rfl (fun _ hS => ex_pick_t rfl rfl) (Evo.refl (jb :: ob.toList) w48) ?_; refine ae_take 13 rfl (by kernel_rfl) (by kernel_rfl) (by kernel_rfl) rfl (fun _ hS => ex_move rfl) (Evo.refl (jb :: ob.toList) w48) ?_; refine ae_takeN 14 rfl rfl rfl rfl rfl rfl (by kernel_rfl) (by kernel_rfl) (by kernel_rfl) rfl (Evo.refl (jb :: ob.toList) w48) ?_; refine ae_takeN 15 rfl rfl rfl rfl rfl rfl (by kernel_rfl) (by kernel_rfl) (by kernel_rfl) rfl (Evo.refl (jb :: ob.toList) w48) ?_; refine ae_takeN 16 rfl rfl rfl rfl rfl rfl (by kernel_rfl) (by kernel_rfl) (by kernel_rfl) rfl (Evo.refl (jb :: ob.toList) w48) ?_; refine ae_loud [17] (by kernel_rfl) rfl ⟨?_, trivial⟩; refine a_step rfl ?_; refine wl_n ?_; refine wl_nil (ae_next (.inl (Evo.refl (jb :: ob.toList) w48)) ?_)
                refine ae_takeN 18 rfl rfl rfl rfl rfl rfl (by kernel_rfl) (by kernel_rfl) (by kernel_rfl) rfl (Evo.refl (jb :: ob.toList) w48) ?_; refine ae_take 19 rfl (by kernel_rfl) (by kernel_rfl) (by kernel_rfl) rfl (fun _ hS => ex_pick_t rfl rfl) (Evo.refl (jb :: ob.toList) w48) ?_; refine ae_take 20 rfl (by kernel_rfl) (by kernel_rfl) (by kernel_rfl) rfl (fun _ hS => ex_move rfl) (Evo.refl (jb :: ob.toList) w48) ?_; refine ae_takeN 21 rfl rfl rfl rfl rfl rfl (by kernel_rfl) (by kernel_rfl) (by kernel_rfl) rfl (Evo.refl (jb :: ob.toList) w48) ?_; refine ae_takeN 22 rfl rfl rfl rfl rfl rfl (by kernel_rfl) (by kernel_rfl) (by kernel_rfl) rfl (Evo.refl (jb :: ob.toList) w48) ?_; refine ae_takeN 23 rfl rfl rfl rfl rfl rfl (by kernel_rfl) (by kernel_rfl) (by kernel_rfl) rfl (Evo.refl (jb :: ob.toList) w48) ?_; refine ae_loud [24] (by kernel_rfl) rfl ⟨?_, trivial⟩; refine a_step rfl ?_; refine wl_n ?_; refine wl_nil (ae_next (.inl (Evo.refl (jb :: ob.toList) w48)) ?_); refine ae_takeN 25 rfl rfl rfl rfl rfl rfl (by kernel_rfl) (by kernel_rfl) (by kernel_rfl) rfl (Evo.refl (jb :: ob.toList) w48) ?_; refine ae_take 26 rfl (by kernel_rfl) (by kernel_rfl) (by kernel_rfl) rfl (fun _ hS => ex_pick_t rfl rfl) (Evo.refl (jb :: ob.toList) w48) ?_; refine ae_done (by kernel_rfl) (nrm_then ?_); refine cw_true rfl ?_; refine cw_seq ?_; refine cw_region ?_; refine wl_a ?_; refine wl_nil (nrm_then ?_); refine cw_ret (ret_then (ret_block (ret_then (ret_then (body_ret1 rfl rfl ?_)))))
                have hno := fine_no (x := t) (b := b) (st := st) (fun h => by obtain ⟨h1, h2, h3, h4⟩ := h; have hf := (nodeP_iff t).1 h3; (have := hf.grp; omega))
                exact ⟨false, rfl, by rw [hno]; rfl, hE50, fun st' h => by rw [hno] at h; cases h⟩
               ·skip
                refine ae_takeG 5 rfl rfl rfl rfl rfl (by kernel_rfl) (by kernel_rfl) (by kernel_rfl) rfl (fun _ hS => ex_fieldAddr rfl Tryz.fld25_6) (Evo.refl (jb :: ob.toList) w48) ?_; refine ae_takeG 6 rfl rfl rfl rfl rfl (by kernel_rfl) (by kernel_rfl) (by kernel_rfl) rfl (fun _ hS => ex_load1 rfl Tryz.agg3 (cell_nth (hS.blk hB53 (nmem2 hA5.symm hA6.symm)) rfl)) (Evo.refl (jb :: ob.toList) w48) ?_; refine ae_takeG 7 rfl rfl rfl rfl rfl (by kernel_rfl) (by kernel_rfl) (by kernel_rfl) rfl (fun _ hS => ex_move rfl) (Evo.refl (jb :: ob.toList) w48) ?_; refine ae_takeG 8 rfl rfl rfl rfl rfl (by kernel_rfl) (by kernel_rfl) (by kernel_rfl) rfl (fun _ hS => ex_nilCheck rfl) (Evo.refl (jb :: ob.toList) w48) ?_; refine ae_takeG 9 rfl rfl rfl rfl rfl (by kernel_rfl) (by kernel_rfl) (by kernel_rfl) rfl (fun _ hS => ex_fieldAddr rfl Tryz.fld145_1) (Evo.refl (jb :: ob.toList) w48) ?_; refine ae_loud [10] (by kernel_rfl) rfl ⟨?_, trivial⟩; refine a_step rfl ?_; refine wl_g ?_; refine wl_val rfl (ex_load1 rfl Tryz.agg3 (cell_nth hB51 rfl)) ?_; refine wl_nil (ae_next (.inl (Evo.refl (jb :: ob.toList) w48)) ?_); refine ae_takeG 11 rfl rfl rfl rfl rfl (by kernel_rfl) (by kernel_rfl) (by kernel_rfl) rfl (fun _ hS => ex_neq rfl rfl) (Evo.refl (jb :: ob.toList) w48) ?_; refine ae_take 12 rfl (by kernel_rfl) (by kernel_rfl) (by kernel_rfl) rfl (fun _ hS => ex_pick_f rfl rfl) (Evo.refl (jb :: ob.toList) w48) ?_; refine ae_take 13 rfl (by kernel_rfl) (by kernel_rfl) (by kernel_rfl) rfl (fun _ hS => ex_move rfl) (Evo.refl (jb :: ob.toList) w48) ?_; refine ae_split (t := 132) rfl (fun hs132 => ?_) (fun hs132 => ?_)
                ·skip
                 refine ae_takeN 14 rfl rfl rfl rfl rfl rfl (by kernel_rfl) (by kernel_rfl) (by kernel_rfl) rfl (Evo.refl (jb :: ob.toList) w48) ?_; refine ae_takeN 15 rfl rfl rfl rfl rfl rfl (by kernel_rfl) (by kernel_rfl) (by kernel_rfl) rfl (Evo.refl (jb :: ob.toList) w48) ?_; refine ae_takeN 16 rfl rfl rfl rfl rfl rfl (by kernel_rfl) (by kernel_rfl) (by kernel_rfl) rfl (Evo.refl (jb :: ob.toList) w48) ?_; refine ae_loud [17] (by kernel_rfl) rfl ⟨?_, trivial⟩; refine a_step rfl ?_; refine wl_n ?_; refine wl_nil (ae_next (.inl (Evo.refl (jb :: ob.toList) w48)) ?_); refine ae_takeN 18 rfl rfl rfl rfl rfl rfl (by kernel_rfl) (by kernel_rfl) (by kernel_rfl) rfl (Evo.refl (jb :: ob.toList) w48) ?_; refine ae_take 19 rfl (by kernel_rfl) (by kernel_rfl) (by kernel_rfl) rfl (fun _ hS => ex_pick_t rfl rfl) (Evo.refl (jb :: ob.toList) w48) ?_; refine ae_take 20 rfl (by kernel_rfl) (by kernel_rfl) (by kernel_rfl) rfl (fun _ hS => ex_move rfl) (Evo.refl (jb :: ob.toList) w48) ?_; refine ae_takeN 21 rfl rfl rfl rfl rfl rfl (by kernel_rfl) (by kernel_rfl) (by kernel_rfl) rfl (Evo.refl (jb :: ob.toList) w48) ?_; refine ae_takeN 22 rfl rfl rfl rfl rfl rfl (by kernel_rfl) (by kernel_rfl) (by kernel_rfl) rfl (Evo.refl (jb :: ob.toList) w48) ?_; refine ae_takeN 23 rfl rfl rfl rfl rfl rfl (by kernel_rfl) (by kernel_rfl) (by kernel_rfl) rfl (Evo.refl (jb :: ob.toList) w48) ?_; refine ae_loud [24] (by kernel_rfl) rfl ⟨?_, trivial⟩; refine a_step rfl ?_; refine wl_n ?_; refine wl_nil (ae_next (.inl (Evo.refl (jb :: ob.toList) w48)) ?_); refine ae_takeN 25 rfl rfl rfl rfl rfl rfl (by kernel_rfl) (by kernel_rfl) (by kernel_rfl) rfl (Evo.refl (jb :: ob.toList) w48) ?_
                 refine ae_take 26 rfl (by kernel_rfl) (by kernel_rfl) (by kernel_rfl) rfl (fun _ hS => ex_pick_t rfl rfl) (Evo.refl (jb :: ob.toList) w48) ?_; refine ae_done (by kernel_rfl) (nrm_then ?_); refine cw_true rfl ?_; refine cw_seq ?_; refine cw_region ?_; refine wl_a ?_; refine wl_nil (nrm_then ?_); refine cw_ret (ret_then (ret_block (ret_then (ret_then (body_ret1 rfl rfl ?_)))))
                 have hno := fine_no (x := t) (b := b) (st := st) (fun h => by obtain ⟨h1, h2, h3, h4⟩ := h; have hf := (nodeP_iff t).1 h3; (have := (h4 (by omega)).1; omega))
                 exact ⟨false, rfl, by rw [hno]; rfl, hE50, fun st' h => by rw [hno] at h; cases h⟩
                ·skip
                 refine ae_takeG 14 rfl rfl rfl rfl rfl (by kernel_rfl) (by kernel_rfl) (by kernel_rfl) rfl (fun _ hS => ex_move rfl) (Evo.refl (jb :: ob.toList) w48) ?_; refine ae_takeG 15 rfl rfl rfl rfl rfl (by kernel_rfl) (by kernel_rfl) (by kernel_rfl) rfl (fun _ hS => ex_nilCheck rfl) (Evo.refl (jb :: ob.toList) w48) ?_; refine ae_takeG 16 rfl rfl rfl rfl rfl (by kernel_rfl) (by kernel_rfl) (by kernel_rfl) rfl (fun _ hS => ex_fieldAddr rfl Tryz.fld145_1) (Evo.refl (jb :: ob.toList) w48) ?_; refine ae_loud [17] (by kernel_rfl) rfl ⟨?_, trivial⟩; refine a_step rfl ?_; refine wl_g ?_; refine wl_val rfl (ex_load1 rfl Tryz.agg3 (cell_nth hB51 rfl)) ?_; refine wl_nil (ae_next (.inl (Evo.refl (jb :: ob.toList) w48)) ?_); refine ae_takeG 18 rfl rfl rfl rfl rfl (by kernel_rfl) (by kernel_rfl) (by kernel_rfl) rfl (fun _ hS => ex_gtr rfl rfl) (Evo.refl (jb :: ob.toList) w48) ?_; refine ae_take 19 rfl (by kernel_rfl) (by kernel_rfl) (by kernel_rfl) rfl (fun _ hS => ex_pick_f rfl rfl) (Evo.refl (jb :: ob.toList) w48) ?_; refine ae_take 20 rfl (by kernel_rfl) (by kernel_rfl) (by kernel_rfl) rfl (fun _ hS => ex_move rfl) (Evo.refl (jb :: ob.toList) w48) ?_; refine ae_split (t := 139) rfl (fun hs139 => ?_) (fun hs139 => ?_)
                 ·skip
                  refine ae_takeN 21 rfl rfl rfl rfl rfl rfl (by kernel_rfl) (by kernel_rfl) (by kernel_rfl) rfl (Evo.refl (jb :: ob.toList) w48) ?_; refine ae_takeN 22 rfl rfl rfl rfl rfl rfl (by kernel_rfl) (by kernel_rfl) (by kernel_rfl) rfl (Evo.refl (jb :: ob.toList) w48) ?_; refine ae_takeN 23 rfl rfl rfl rfl rfl rfl (by kernel_rfl) (by kernel_rfl) (by kernel_rfl) rfl (Evo.refl (jb :: ob.toList) w48) ?_; refine ae_loud [24] (by kernel_rfl) rfl ⟨?_, trivial⟩; refine a_step rfl ?_; refine wl_n ?_; refine wl_nil (ae_next (.inl (Evo.refl (jb :: ob.toList) w48)) ?_); refine ae_takeN 25 rfl rfl rfl rfl rfl rfl (by kernel_rfl) (by kernel_rfl) (by kernel_rfl) rfl (Evo.refl (jb :: ob.toList) w48) ?_; refine ae_take 26 rfl (by kernel_rfl) (by kernel_rfl) (by kernel_rfl) rfl (fun _ hS => ex_pick_t rfl rfl) (Evo.refl (jb :: ob.toList) w48) ?_; refine ae_done (by kernel_rfl) (nrm_then ?_); refine cw_true rfl ?_; refine cw_seq ?_; refine cw_region ?_; refine wl_a ?_; refine wl_nil (nrm_then ?_); refine cw_ret (ret_then (ret_block (ret_then (ret_then (body_ret1 rfl rfl ?_)))))
                  have hno := fine_no (x := t) (b := b) (st := st) (fun h => by obtain ⟨h1, h2, h3, h4⟩ := h; have hf := (nodeP_iff t).1 h3; (have := (h4 (by omega)).1; have := (h4 (by omega)).2.1; omega))
                  exact ⟨false, rfl, by rw [hno]; rfl, hE50, fun st' h => by rw [hno] at h; cases h⟩
                 ·skip
                  refine ae_takeG 21 rfl rfl rfl rfl rfl (by kernel_rfl) (by kernel_rfl) (by kernel_rfl) rfl (fun _ hS => ex_move rfl) (Evo.refl (jb :: ob.toList) w48) ?_; have hszc := (hE50).size; have hlt5 := Lt.blk hB53; refine ae_takeG 22 rfl rfl rfl rfl rfl (by kernel_rfl) (by kernel_rfl) (by kernel_rfl) rfl (fun _ hS => ex_fieldAddr rfl Tryz.fld25_7) (Evo.refl (jb :: ob.toList) w48) ?_; refine ae_takeG 23 rfl rfl rfl rfl rfl (by kernel_rfl) (by kernel_rfl) (by kernel_rfl) rfl (fun _ hS => ex_load1 rfl Tryz.agg9 (cell_nth (hS.blk hB53 (nmem2 hA5.symm hA6.symm)) rfl)) (Evo.refl (jb :: ob.toList) w48) ?_; refine ae_loud [24] (by kernel_rfl) rfl ⟨?_, trivial⟩; refine a_step rfl ?_; refine wl_g ?_; refine wl_call1 (vs := [_, _]) Tryz.goes134 rfl (name_ok ⟨hB51, hO52, hne⟩ (by omega) bl2) rfl ?_; rintro _ w54 ⟨gb, rfl, hgb, hw55, hgs⟩; have hE56 := hE50.step hw55 (fun y hy => .inl hy); have hE57 := (Evo.refl (jb :: ob.toList) w48).step hw55 (fun y hy => .inl hy); have hB58 := hw55.blk hB53 (nmem2 hA5.symm hA6.symm); refine wl_nil (ae_next (.inl hE57) ?_); refine ae_takeG 25 rfl rfl rfl rfl rfl (by kernel_rfl) (by kernel_rfl) (by kernel_rfl) rfl (fun _ hS => ex_notb rfl) hE57 ?_; refine ae_take 26 rfl (by kernel_rfl) (by kernel_rfl) (by kernel_rfl) rfl (fun _ hS => ex_pick_f rfl rfl) hE57 ?_; refine ae_done (by kernel_rfl) (nrm_then ?_); refine cw_ifb rfl (fun hc145 => ?_) (fun hc145 => ?_)
                  ·skip
                   refine cw_seq ?_; refine cw_region ?_; refine wl_a ?_; refine wl_nil (nrm_then ?_); refine cw_ret (ret_then (ret_block (ret_then (ret_then (body_ret1 rfl rfl ?_)))))
                   have hno := fine_no (x := t) (b := b) (st := st) (fun h => by obtain ⟨h1, h2, h3, h4⟩ := h; have hf := (nodeP_iff t).1 h3; (have := hgb.2 (h4 (by omega)).2.2; rw [this] at hc145; cases hc145))
                   exact ⟨false, rfl, by rw [hno]; rfl, hE56, fun st' h => by rw [hno] at h; cases h⟩
                  ·skip
                   obtain ⟨a2, c2, ob2, hJ2, hob2⟩ := hgs (by simpa using hc145); have hgb2 := hgb.1 (by simpa using hc145); have hAq5 := ap_ob hA6.symm hlt5 hob2
                   have hg9 : ∀ g, ob2 = some g → g ∈ ob.toList ∨ w.heap.size ≤ g := fun g hg => by rcases hob2 with h | ⟨g', h1, h2⟩; left; rw [← h, hg]; simp; right; rw [hg] at h1; cases h1; exact Nat.le_trans hszc h2
                   refine cw_skip (nrm_then ?_); refine cw_seq ?_; refine cw_region ?_; refine wl_m ?_; refine wl_val rfl (ex_add_i64 rfl rfl (by omega) (by omega)) ?_; refine wl_a ?_; refine wl_nil (nrm_then ?_); refine cw_seq ?_; refine cw_region ?_; refine wl_m ?_; refine wl_val rfl (ex_gtr rfl rfl) ?_; refine wl_nil (nrm_then ?_); refine cw_if rfl (fun hc149 => ?_) (fun hc149 => ?_)
                   ·skip
                    refine cw_seq ?_; refine cw_region ?_; refine wl_a ?_; refine wl_nil (nrm_then ?_); refine cw_ret (ret_block (ret_then (ret_then (body_ret1 rfl rfl ?_))))
                    have hno := fine_no (x := t) (b := b) (st := st) (fun h => by obtain ⟨h1, h2, h3, h4⟩ := h; have hf := (nodeP_iff t).1 h3; (rw [if_pos (by omega)] at h2; omega))
                    exact ⟨false, rfl, by rw [hno]; rfl, hE56, fun st' h => by rw [hno] at h; cases h⟩
                   ·skip
                    refine cw_skip (nrm_block (nrm_same ?_)); refine ⟨(z + 1, (st.1 + 1, st.2 ++ [t.name]), a2, c2, ob2), ⟨rfl, trivial⟩, ⟨rfl, rfl, trivial⟩, hE56, ?_⟩
                    have hfin0 := fine_yes (x := t) (b := b) (st := st) ⟨by omega, (by rw [if_pos (by omega)]; omega), (nodeP_iff t).2 ⟨by omega, by omega, hba.zr, hba.zg, hba.zm1, hba.zm2, hba.zl, hba.zc, hba.zn, fun k => by omega, fun k => by omega, fun k => by omega, fun k => by omega, fun k => by omega, fun k => by omega, fun k => by omega, fun k => by omega, fun k => by omega, hba.zk⟩, fun _ => ⟨by omega, by omega, hgb2⟩⟩
                    refine ⟨by simp only; omega, by simp only; rw [if_pos (by omega)], ?_, ?_, hg9, hB58, nmem2 hA5.symm hAq5⟩
                    · rw [hfin0, if_pos (by omega), if_pos (by omega), hz]
                    · exact ⟨by simpa [List.length_append] using hJ2.blk, hJ2.own, hJ2.ne⟩
              ·skip
               refine cw_skip (nrm_block (nrm_same ?_)); refine ⟨(z, (st.1 + 1, st.2), a, c, ob), ⟨rfl, trivial⟩, ⟨rfl, rfl, trivial⟩, hE32, ?_⟩
               have hfin0 := fine_yes (x := t) (b := b) (st := st) ⟨by omega, (by rw [if_neg (by omega)]; omega), (nodeP_iff t).2 ⟨by omega, by omega, hba.zr, hba.zg, hba.zm1, hba.zm2, hba.zl, hba.zc, hba.zn, fun k => by omega, fun k => by omega, fun k => by omega, fun k => by omega, fun k => by omega, fun k => by omega, fun k => by omega, fun k => by omega, fun k => by omega, hba.zk⟩, fun h => by omega⟩
               refine ⟨by simp only; omega, by simp only; rw [if_neg (by omega)], ?_, ?_, fun g hg => .inl (by have h9 : ob = some g := hg; simp [h9]), hB35, nmem2 hA5.symm hA6.symm⟩
               · rw [hfin0, if_neg (by omega), if_neg (by omega), hz]
               · exact ⟨by simpa [List.length_append] using hB33, hO34, hne⟩
           ·skip
            refine cw_region ?_; refine wl_val rfl (ex_eql rfl rfl) ?_; refine wl_a ?_; refine wl_nil (nrm_then ?_); refine cw_if rfl (fun hc65 => ?_) (fun hc65 => ?_)
            ·skip
             refine cw_seq ?_; refine cw_region ?_; refine wl_val rfl (ex_fieldAddr rfl Tryz.fld25_8) ?_; refine wl_val rfl (ex_load1 rfl Tryz.agg23 (cell_nth hB35 rfl)) ?_; refine wl_val rfl (ex_len_slice rfl Tryz.underlying23 rfl) ?_; refine wl_val rfl (ex_lss rfl rfl) ?_; refine wl_nil (nrm_then ?_); refine cw_if rfl (fun hc71 => ?_) (fun hc71 => ?_)
             ·skip
              refine cw_seq ?_; refine cw_region ?_; refine wl_a ?_; refine wl_nil (nrm_then ?_); refine cw_ret (ret_block (ret_then (ret_then (body_ret1 rfl rfl ?_))))
              have hno := fine_no (x := t) (b := b) (st := st) (fun h => by obtain ⟨h1, h2, h3, h4⟩ := h; have hf := (nodeP_iff t).1 h3; (have := hf.two; omega))
              exact ⟨false, rfl, by rw [hno]; rfl, hE32, fun st' h => by rw [hno] at h; cases h⟩
             ·skip
              refine cw_skip (nrm_block (nrm_same ?_)); refine ⟨(z, (st.1 + 1, st.2), a, c, ob), ⟨rfl, trivial⟩, ⟨rfl, rfl, trivial⟩, hE32, ?_⟩
              have hfin0 := fine_yes (x := t) (b := b) (st := st) ⟨by omega, (by rw [if_neg (by omega)]; omega), (nodeP_iff t).2 ⟨by omega, by omega, hba.zr, hba.zg, hba.zm1, hba.zm2, hba.zl, hba.zc, hba.zn, fun k => by omega, fun k => by omega, fun k => by omega, fun k => by omega, fun k => by omega, fun k => by omega, fun k => by omega, fun k => by omega, fun k => by omega, hba.zk⟩, fun h => by omega⟩
              refine ⟨by simp only; omega, by simp only; rw [if_neg (by omega)], ?_, ?_, fun g hg => .inl (by have h9 : ob = some g := hg; simp [h9]), hB35, nmem2 hA5.symm hA6.symm⟩
              · rw [hfin0, if_neg (by omega), if_neg (by omega), hz]
              · exact ⟨by simpa [List.length_append] using hB33, hO34, hne⟩
            ·skip
             refine cw_seq ?_; refine cw_region ?_; refine wl_val rfl (ex_eql rfl rfl) ?_; refine wl_a ?_; refine wl_nil (nrm_then ?_); refine cw_if rfl (fun hc72 => ?_) (fun hc72 => ?_)
             ·skip
              refine cw_seq ?_; refine cw_region ?_; refine wl_val rfl (ex_fieldAddr rfl Tryz.fld25_8) ?_; refine wl_val rfl (ex_load1 rfl Tryz.agg23 (cell_nth hB35 rfl)) ?_; refine wl_val rfl (ex_len_slice rfl Tryz.underlying23 rfl) ?_; refine wl_val rfl (ex_neq rfl rfl) ?_; refine wl_m ?_; refine wl_split (t := 78) rfl (fun hs78 => ?_) (fun hs78 => ?_)
              ·skip
               refine wl_n ?_; refine wl_n ?_; refine wl_n ?_; refine wl_pt ?_; refine wl_m ?_; refine wl_n ?_; refine wl_n ?_; refine wl_n ?_; refine wl_pt ?_; refine wl_m ?_; refine wl_n ?_; refine wl_n ?_; refine wl_n ?_; refine wl_pt ?_; refine wl_m ?_; refine wl_n ?_; refine wl_n ?_; refine wl_n ?_; refine wl_pt ?_; refine wl_m ?_; refine wl_n ?_; refine wl_n ?_; refine wl_n ?_; refine wl_n ?_; refine wl_u ?_; refine wl_u ?_; refine wl_u ?_; refine wl_u ?_; refine wl_u ?_; refine wl_n ?_; refine wl_pt ?_; refine wl_nil (nrm_then ?_); refine cw_true rfl ?_; refine cw_seq ?_; refine cw_region ?_; refine wl_a ?_; refine wl_nil (nrm_then ?_); refine cw_ret (ret_block (ret_then (ret_then (body_ret1 rfl rfl ?_))))
               have hno := fine_no (x := t) (b := b) (st := st) (fun h => by obtain ⟨h1, h2, h3, h4⟩ := h; have hf := (nodeP_iff t).1 h3; (have f1 := hf.rep1; have f2 := hf.rep2; have f3 := hf.rep3; have f4 := hf.rep4; omega))
               exact ⟨false, rfl, by rw [hno]; rfl, hE32, fun st' h => by rw [hno] at h; cases h⟩
              ·skip
               refine wl_g ?_; refine wl_val rfl (ex_fieldAddr rfl Tryz.fld25_3) ?_; refine wl_g ?_; refine wl_val rfl (ex_load1 rfl Tryz.agg3 (cell_nth hB35 rfl)) ?_; refine wl_g ?_; refine wl_val rfl (ex_lss rfl rfl) ?_; refine wl_pf ?_; refine wl_m ?_; refine wl_split (t := 83) rfl (fun hs83 => ?_) (fun hs83 => ?_)
               ·skip
                refine wl_n ?_; refine wl_n ?_; refine wl_n ?_; refine wl_pt ?_; refine wl_m ?_; refine wl_n ?_; refine wl_n ?_; refine wl_n ?_; refine wl_pt ?_; refine wl_m ?_; refine wl_n ?_; refine wl_n ?_; refine wl_n ?_; refine wl_pt ?_; refine wl_m ?_; refine wl_n ?_; refine wl_n ?_; refine wl_n ?_; refine wl_n ?_; refine wl_u ?_; refine wl_u ?_; refine wl_u ?_; refine wl_u ?_; refine wl_u ?_; refine wl_n ?_; refine wl_pt ?_; refine wl_nil (nrm_then ?_); refine cw_true rfl ?_; refine cw_seq ?_; refine cw_region ?_; refine wl_a ?_; refine wl_nil (nrm_then ?_); refine cw_ret (ret_block (ret_then (ret_then (body_ret1 rfl rfl ?_))))
                have hno := fine_no (x := t) (b := b) (st := st) (fun h => by obtain ⟨h1, h2, h3, h4⟩ := h; have hf := (nodeP_iff t).1 h3; (have f1 := hf.rep1; have f2 := hf.rep2; have f3 := hf.rep3; have f4 := hf.rep4; omega))
                exact ⟨false, rfl, by rw [hno]; rfl, hE32, fun st' h => by rw [hno] at h; cases h⟩
               ·skip
                refine wl_g ?_; refine wl_val rfl (ex_fieldAddr rfl Tryz.fld25_3) ?_; refine wl_g ?_; refine wl_val rfl (ex_load1 rfl Tryz.agg3 (cell_nth hB35 rfl)) ?_; refine wl_g ?_; refine wl_val rfl (ex_gtr rfl rfl) ?_; refine wl_pf ?_; refine wl_m ?_; refine wl_split (t := 88) rfl (fun hs88 => ?_) (fun hs88 => ?_)
                ·skip
                 refine wl_n ?_; refine wl_n ?_; refine wl_n ?_; refine wl_pt ?_; refine wl_m ?_; refine wl_n ?_; refine wl_n ?_; refine wl_n ?_; refine wl_pt ?_; refine wl_m ?_; refine wl_n ?_; refine wl_n ?_; refine wl_n ?_; refine wl_n ?_; refine wl_u ?_; refine wl_u ?_; refine wl_u ?_; refine wl_u ?_; refine wl_u ?_; refine wl_n ?_; refine wl_pt ?_; refine wl_nil (nrm_then ?_); refine cw_true rfl ?_; refine cw_seq ?_; refine cw_region ?_; refine wl_a ?_; refine wl_nil (nrm_then ?_); refine cw_ret (ret_block (ret_then (ret_then (body_ret1 rfl rfl ?_))))
                 have hno := fine_no (x := t) (b := b) (st := st) (fun h => by obtain ⟨h1, h2, h3, h4⟩ := h; have hf := (nodeP_iff t).1 h3; (have f1 := hf.rep1; have f2 := hf.rep2; have f3 := hf.rep3; have f4 := hf.rep4; omega))
                 exact ⟨false, rfl, by rw [hno]; rfl, hE32, fun st' h => by rw [hno] at h; cases h⟩
                ·skip
                 refine wl_g ?_; refine wl_val rfl (ex_fieldAddr rfl Tryz.fld25_4) ?_; refine wl_g ?_; refine wl_val rfl (ex_load1 rfl Tryz.agg3 (cell_nth hB35 rfl)) ?_; refine wl_g ?_; refine wl_val rfl (ex_lss rfl rfl) ?_; refine wl_pf ?_; refine wl_m ?_; refine wl_split (t := 93) rfl (fun hs93 => ?_) (fun hs93 => ?_)
                 ·skip
                  refine wl_n ?_; refine wl_n ?_; refine wl_n ?_; refine wl_pt ?_; refine wl_m ?_; refine wl_n ?_; refine wl_n ?_; refine wl_n ?_; refine wl_n ?_; refine wl_u ?_; refine wl_u ?_; refine wl_u ?_; refine wl_u ?_; refine wl_u ?_; refine wl_n ?_; refine wl_pt ?_; refine wl_nil (nrm_then ?_); refine cw_true rfl ?_; refine cw_seq ?_; refine cw_region ?_; refine wl_a ?_; refine wl_nil (nrm_then ?_); refine cw_ret (ret_block (ret_then (ret_then (body_ret1 rfl rfl ?_))))
                  have hno := fine_no (x := t) (b := b) (st := st) (fun h => by obtain ⟨h1, h2, h3, h4⟩ := h; have hf := (nodeP_iff t).1 h3; (have f1 := hf.rep1; have f2 := hf.rep2; have f3 := hf.rep3; have f4 := hf.rep4; omega))
                  exact ⟨false, rfl, by rw [hno]; rfl, hE32, fun st' h => by rw [hno] at h; cases h⟩
                 ·skip
                  refine wl_g ?_; refine wl_val rfl (ex_fieldAddr rfl Tryz.fld25_4) ?_; refine wl_g ?_; refine wl_val rfl (ex_load1 rfl Tryz.agg3 (cell_nth hB35 rfl)) ?_; refine wl_g ?_; refine wl_val rfl (ex_gtr rfl rfl) ?_; refine wl_pf ?_; refine wl_m ?_; refine wl_split (t := 98) rfl (fun hs98 => ?_) (fun hs98 => ?_)
                  ·skip
                   refine wl_n ?_; refine wl_n ?_; refine wl_n ?_; refine wl_n ?_; refine wl_u ?_; refine wl_u ?_; refine wl_u ?_; refine wl_u ?_; refine wl_u ?_; refine wl_n ?_; refine wl_pt ?_; refine wl_nil (nrm_then ?_); refine cw_true rfl ?_; refine cw_seq ?_; refine cw_region ?_; refine wl_a ?_; refine wl_nil (nrm_then ?_); refine cw_ret (ret_block (ret_then (ret_then (body_ret1 rfl rfl ?_))))
                   have hno := fine_no (x := t) (b := b) (st := st) (fun h => by obtain ⟨h1, h2, h3, h4⟩ := h; have hf := (nodeP_iff t).1 h3; (have f1 := hf.rep1; have f2 := hf.rep2; have f3 := hf.rep3; have f4 := hf.rep4; omega))
                   exact ⟨false, rfl, by rw [hno]; rfl, hE32, fun st' h => by rw [hno] at h; cases h⟩
                  ·skip
                   refine wl_g ?_; refine wl_val rfl (ex_fieldAddr rfl Tryz.fld25_4) ?_; refine wl_g ?_; refine wl_val rfl (ex_load1 rfl Tryz.agg3 (cell_nth hB35 rfl)) ?_; refine wl_g ?_; refine wl_val rfl (ex_geq rfl rfl) ?_; refine wl_g ?_; refine wl_m ?_; refine wl_split (t := 102) rfl (fun hs102 => ?_) (fun hs102 => ?_)
                   ·skip
                    refine wl_g ?_; refine wl_val rfl (ex_fieldAddr rfl Tryz.fld25_4) ?_; refine wl_g ?_; refine wl_val rfl (ex_load1 rfl Tryz.agg3 (cell_nth hB35 rfl)) ?_; refine wl_g ?_; refine wl_val rfl (ex_fieldAddr rfl Tryz.fld25_3) ?_; refine wl_g ?_; refine wl_val rfl (ex_load1 rfl Tryz.agg3 (cell_nth hB35 rfl)) ?_; refine wl_g ?_; refine wl_val rfl (ex_lss rfl rfl) ?_; refine wl_g ?_; refine wl_pt ?_; refine wl_pf ?_; refine wl_nil (nrm_then ?_); refine cw_if rfl (fun hc109 => ?_) (fun hc109 => ?_)
                    ·skip
                     refine cw_seq ?_; refine cw_region ?_; refine wl_a ?_; refine wl_nil (nrm_then ?_); refine cw_ret (ret_block (ret_then (ret_then (body_ret1 rfl rfl ?_))))
                     have hno := fine_no (x := t) (b := b) (st := st) (fun h => by obtain ⟨h1, h2, h3, h4⟩ := h; have hf := (nodeP_iff t).1 h3; (have f1 := hf.rep1; have f2 := hf.rep2; have f3 := hf.rep3; have f4 := hf.rep4; omega))
                     exact ⟨false, rfl, by rw [hno]; rfl, hE32, fun st' h => by rw [hno] at h; cases h⟩
                    ·skip
                     refine cw_skip (nrm_block (nrm_same ?_)); refine ⟨(z, (st.1 + 1, st.2), a, c, ob), ⟨rfl, trivial⟩, ⟨rfl, rfl, trivial⟩, hE32, ?_⟩
                     have hfin0 := fine_yes (x := t) (b := b) (st := st) ⟨by omega, (by rw [if_neg (by omega)]; omega), (nodeP_iff t).2 ⟨by omega, by omega, hba.zr, hba.zg, hba.zm1, hba.zm2, hba.zl, hba.zc, hba.zn, fun k => by omega, fun k => by omega, fun k => by omega, fun k => by omega, fun k => by omega, fun k => by omega, fun k => by omega, fun k => by omega, fun k => by omega, hba.zk⟩, fun h => by omega⟩
                     refine ⟨by simp only; omega, by simp only; rw [if_neg (by omega)], ?_, ?_, fun g hg => .inl (by have h9 : ob = some g := hg; simp [h9]), hB35, nmem2 hA5.symm hA6.symm⟩
                     · rw [hfin0, if_neg (by omega), if_neg (by omega), hz]
                     · exact ⟨by simpa [List.length_append] using hB33, hO34, hne⟩
                   ·skip
                    refine wl_n ?_; refine wl_n ?_; refine wl_n ?_; refine wl_n ?_; refine wl_n ?_; refine wl_g ?_; refine wl_pf ?_; refine wl_pf ?_; refine wl_nil (nrm_then ?_); refine cw_false rfl ?_; refine cw_skip (nrm_block (nrm_same ?_)); refine ⟨(z, (st.1 + 1, st.2), a, c, ob), ⟨rfl, trivial⟩, ⟨rfl, rfl, trivial⟩, hE32, ?_⟩
                    have hfin0 := fine_yes (x := t) (b := b) (st := st) ⟨by omega, (by rw [if_neg (by omega)]; omega), (nodeP_iff t).2 ⟨by omega, by omega, hba.zr, hba.zg, hba.zm1, hba.zm2, hba.zl, hba.zc, hba.zn, fun k => by omega, fun k => by omega, fun k => by omega, fun k => by omega, fun k => by omega, fun k => by omega, fun k => by omega, fun k => by omega, fun k => by omega, hba.zk⟩, fun h => by omega⟩
                    refine ⟨by simp only; omega, by simp only; rw [if_neg (by omega)], ?_, ?_, fun g hg => .inl (by have h9 : ob = some g := hg; simp [h9]), hB35, nmem2 hA5.symm hA6.symm⟩
                    · rw [hfin0, if_neg (by omega), if_neg (by omega), hz]
                    · exact ⟨by simpa [List.length_append] using hB33, hO34, hne⟩
             ·skip
              refine cw_seq ?_; refine cw_region ?_; refine wl_val rfl (ex_eql rfl rfl) ?_; refine wl_a ?_; refine wl_nil (nrm_then ?_); refine cw_if rfl (fun hc110 => ?_) (fun hc110 => ?_)
              ·skip
               refine cw_seq ?_; refine cw_region ?_; refine wl_m ?_; refine wl_val rfl (ex_nilCheck rfl) ?_; refine wl_val rfl (ex_fieldAddr rfl Tryz.fld145_1) ?_; refine wl_val rfl (ex_load1 rfl Tryz.agg3 (cell_nth hB33 rfl)) ?_; refine wl_val rfl (ex_add_i64 rfl rfl (by omega) (by omega)) ?_; refine wl_val rfl (ex_nilCheck rfl) ?_; refine wl_val rfl (ex_fieldAddr rfl Tryz.fld145_1) ?_; refine wl_store1 rfl rfl (by first | rfl | assumption) Tryz.size3 hB33 rfl fun w59 hB60 hw61 => ?_
               have hE62 := hE32.step hw61 (fun y hy => .inl (by rw [List.mem_singleton.1 hy]; exact List.mem_cons_self ..))
               have hO63 := hO34.evo hw61 hAJN.symm.own1; have hB64 := hw61.blk hB35 hA5.symm.nmem1
               try simp only [List.setIfInBounds_toArray, List.set_cons_zero, List.set_cons_succ, Nat.reduceAdd, Nat.zero_add, Nat.add_zero] at hB60
               refine wl_nil (nrm_then ?_); refine cw_seq ?_; refine cw_seq ?_; refine cw_any (fun w0 w' => Evo (jb :: ob.toList) w0 w') (by kernel_rfl) (fun w65 hw66 => ?_); have hE67 := hE62.then hw66; have hB68 := hw66.blk0 hB60; have hO69 := hO63.evo0 hw66; have hB70 := hw66.blk0 hB64; refine ae_take 0 rfl (by kernel_rfl) (by kernel_rfl) (by kernel_rfl) rfl (fun _ hS => ex_fieldAddr rfl Tryz.fld25_8) (Evo.refl (jb :: ob.toList) w65) ?_; refine ae_take 1 rfl (by kernel_rfl) (by kernel_rfl) (by kernel_rfl) rfl (fun _ hS => ex_load1 rfl Tryz.agg23 (cell_nth (hS.blk hB70 (nmem2 hA5.symm hA6.symm)) rfl)) (Evo.refl (jb :: ob.toList) w65) ?_; refine ae_take 2 rfl (by kernel_rfl) (by kernel_rfl) (by kernel_rfl) rfl (fun _ hS => ex_len_slice rfl Tryz.underlying23 rfl) (Evo.refl (jb :: ob.toList) w65) ?_; refine ae_take 3 rfl (by kernel_rfl) (by kernel_rfl) (by kernel_rfl) rfl (fun _ hS => ex_neq rfl rfl) (Evo.refl (jb :: ob.toList) w65) ?_; refine ae_take 4 rfl (by kernel_rfl) (by kernel_rfl) (by kernel_rfl) rfl (fun _ hS => ex_move rfl) (Evo.refl (jb :: ob.toList) w65) ?_; refine ae_split (t := 123) rfl (fun hs123 => ?_) (fun hs123 => ?_)
               ·skip
                refine ae_takeN 5 rfl rfl rfl rfl rfl rfl (by kernel_rfl) (by kernel_rfl) (by kernel_rfl) rfl (Evo.refl (jb :: ob.toList) w65) ?_; refine ae_takeN 6 rfl rfl rfl rfl rfl rfl (by kernel_rfl) (by kernel_rfl) (by kernel_rfl) rfl (Evo.refl (jb :: ob.toList) w65) ?_; refine ae_takeN 7 rfl rfl rfl rfl rfl rfl (by kernel_rfl) (by kernel_rfl) (by kernel_rfl) rfl (Evo.refl (jb :: ob.toList) w65) ?_; refine ae_takeN 8 rfl rfl rfl rfl rfl rfl (by kernel_rfl) (by kernel_rfl) (by kernel_rfl) rfl (Evo.refl (jb :: ob.toList) w65) ?_; refine ae_takeN 9 rfl rfl rfl rfl rfl rfl (by kernel_rfl) (by kernel_rfl) (by kernel_rfl) rfl (Evo.refl (jb :: ob.toList) w65) ?_; refine ae_loud [10] (by kernel_rfl) rfl ⟨?_, trivial⟩; refine a_step rfl ?_; refine wl_n ?_; refine wl_nil (ae_next (.inl (Evo.refl (jb :: ob.toList) w65)) ?_); refine ae_takeN 11 rfl rfl rfl rfl rfl rfl (by kernel_rfl) (by kernel_rfl) (by kernel_rfl) rfl (Evo.refl (jb :: ob.toList) w65) ?_; refine ae_take 12 rfl (by kernel_rfl) (by kernel_rfl) (by kernel_rfl) rfl (fun _ hS => ex_pick_t rfl rfl) (Evo.refl (jb :: ob.toList) w65) ?_; refine ae_take 13 rfl (by kernel_rfl) (by kernel_rfl) (by kernel_rfl) rfl (fun _ hS => ex_move rfl) (Evo.refl (jb :: ob.toList) w65) ?_; refine ae_takeN 14 rfl rfl rfl rfl rfl rfl (by kernel_rfl) (by kernel_rfl) (by kernel_rfl) rfl (Evo.refl (jb :: ob.toList) w65) ?_; refine ae_takeN 15 rfl rfl rfl rfl rfl rfl (by kernel_rfl) (by kernel_rfl) (by kernel_rfl) rfl (Evo.refl (jb :: ob.toList) w65) ?_; refine ae_takeN 16 rfl rfl rfl rfl rfl rfl (by kernel_rfl) (by kernel_rfl) (by kernel_rfl) rfl (Evo.refl (jb :: ob.toList) w65) ?_; refine ae_loud [17] (by kernel_rfl) rfl ⟨?_, trivial⟩; refine a_step rfl ?_; refine wl_n ?_; refine wl_nil (ae_next (.inl (Evo.refl (jb :: ob.toList) w65)) ?_)
                refine ae_takeN 18 rfl rfl rfl rfl rfl rfl (by kernel_rfl) (by kernel_rfl) (by kernel_rfl) rfl (Evo.refl (jb :: ob.toList) w65) ?_; refine ae_take 19 rfl (by kernel_rfl) (by kernel_rfl) (by kernel_rfl) rfl (fun _ hS => ex_pick_t rfl rfl) (Evo.refl (jb :: ob.toList) w65) ?_; refine ae_take 20 rfl (by kernel_rfl) (by kernel_rfl) (by kernel_rfl) rfl (fun _ hS => ex_move rfl) (Evo.refl (jb :: ob.toList) w65) ?_; refine ae_takeN 21 rfl rfl rfl rfl rfl rfl (by kernel_rfl) (by kernel_rfl) (by kernel_rfl) rfl (Evo.refl (jb :: ob.toList) w65) ?_; refine ae_takeN 22 rfl rfl rfl rfl rfl rfl (by kernel_rfl) (by kernel_rfl) (by kernel_rfl) rfl (Evo.refl (jb :: ob.toList) w65) ?_; refine ae_takeN 23 rfl rfl rfl rfl rfl rfl (by kernel_rfl) (by kernel_rfl) (by kernel_rfl) rfl (Evo.refl (jb :: ob.toList) w65) ?_; refine ae_loud [24] (by kernel_rfl) rfl ⟨?_, trivial⟩; refine a_step rfl ?_; refine wl_n ?_; refine wl_nil (ae_next (.inl (Evo.refl (jb :: ob.toList) w65)) ?_); refine ae_takeN 25 rfl rfl rfl rfl rfl rfl (by kernel_rfl) (by kernel_rfl) (by kernel_rfl) rfl (Evo.refl (jb :: ob.toList) w65) ?_; refine ae_take 26 rfl (by kernel_rfl) (by kernel_rfl) (by kernel_rfl) rfl (fun _ hS => ex_pick_t rfl rfl) (Evo.refl (jb :: ob.toList) w65) ?_; refine ae_done (by kernel_rfl) (nrm_then ?_); refine cw_true rfl ?_; refine cw_seq ?_; refine cw_region ?_; refine wl_a ?_; refine wl_nil (nrm_then ?_); refine cw_ret (ret_then (ret_block (ret_then (ret_then (body_ret1 rfl rfl ?_)))))
                have hno := fine_no (x := t) (b := b) (st := st) (fun h => by obtain ⟨h1, h2, h3, h4⟩ := h; have hf := (nodeP_iff t).1 h3; (have := hf.grp; omega))
                exact ⟨false, rfl, by rw [hno]; rfl, hE67, fun st' h => by rw [hno] at h; cases h⟩
               ·skip
                refine ae_takeG 5 rfl rfl rfl rfl rfl (by kernel_rfl) (by kernel_rfl) (by kernel_rfl) rfl (fun _ hS => ex_fieldAddr rfl Tryz.fld25_6) (Evo.refl (jb :: ob.toList) w65) ?_; refine ae_takeG 6 rfl rfl rfl rfl rfl (by kernel_rfl) (by kernel_rfl) (by kernel_rfl) rfl (fun _ hS => ex_load1 rfl Tryz.agg3 (cell_nth (hS.blk hB70 (nmem2 hA5.symm hA6.symm)) rfl)) (Evo.refl (jb :: ob.toList) w65) ?_; refine ae_takeG 7 rfl rfl rfl rfl rfl (by kernel_rfl) (by kernel_rfl) (by kernel_rfl) rfl (fun _ hS => ex_move rfl) (Evo.refl (jb :: ob.toList) w65) ?_; refine ae_takeG 8 rfl rfl rfl rfl rfl (by kernel_rfl) (by kernel_rfl) (by kernel_rfl) rfl (fun _ hS => ex_nilCheck rfl) (Evo.refl (jb :: ob.toList) w65) ?_; refine ae_takeG 9 rfl rfl rfl rfl rfl (by kernel_rfl) (by kernel_rfl) (by kernel_rfl) rfl (fun _ hS => ex_fieldAddr rfl Tryz.fld145_1) (Evo.refl (jb :: ob.toList) w65) ?_; refine ae_loud [10] (by kernel_rfl) rfl ⟨?_, trivial⟩; refine a_step rfl ?_; refine wl_g ?_; refine wl_val rfl (ex_load1 rfl Tryz.agg3 (cell_nth hB68 rfl)) ?_; refine wl_nil (ae_next (.inl (Evo.refl (jb :: ob.toList) w65)) ?_); refine ae_takeG 11 rfl rfl rfl rfl rfl (by kernel_rfl) (by kernel_rfl) (by kernel_rfl) rfl (fun _ hS => ex_neq rfl rfl) (Evo.refl (jb :: ob.toList) w65) ?_; refine ae_take 12 rfl (by kernel_rfl) (by kernel_rfl) (by kernel_rfl) rfl (fun _ hS => ex_pick_f rfl rfl) (Evo.refl (jb :: ob.toList) w65) ?_; refine ae_take 13 rfl (by kernel_rfl) (by kernel_rfl) (by kernel_rfl) rfl (fun _ hS => ex_move rfl) (Evo.refl (jb :: ob.toList) w65) ?_; refine ae_split (t := 132) rfl (fun hs132 => ?_) (fun hs132 => ?_)
                ·skip
                 refine ae_takeN 14 rfl rfl rfl rfl rfl rfl (by kernel_rfl) (by kernel_rfl) (by kernel_rfl) rfl (Evo.refl (jb :: ob.toList) w65) ?_; refine ae_takeN 15 rfl rfl rfl rfl rfl rfl (by kernel_rfl) (by kernel_rfl) (by kernel_rfl) rfl (Evo.refl (jb :: ob.toList) w65) ?_; refine ae_takeN 16 rfl rfl rfl rfl rfl rfl (by kernel_rfl) (by kernel_rfl) (by kernel_rfl) rfl (Evo.refl (jb :: ob.toList) w65) ?_; refine ae_loud [17] (by kernel_rfl) rfl ⟨?_, trivial⟩; refine a_step rfl ?_; refine wl_n ?_; refine wl_nil (ae_next (.inl (Evo.refl (jb :: ob.toList) w65)) ?_); refine ae_takeN 18 rfl rfl rfl rfl rfl rfl (by kernel_rfl) (by kernel_rfl) (by kernel_rfl) rfl (Evo.refl (jb :: ob.toList) w65) ?_; refine ae_take 19 rfl (by kernel_rfl) (by kernel_rfl) (by kernel_rfl) rfl (fun _ hS => ex_pick_t rfl rfl) (Evo.refl (jb :: ob.toList) w65) ?_; refine ae_take 20 rfl (by kernel_rfl) (by kernel_rfl) (by kernel_rfl) rfl (fun _ hS => ex_move rfl) (Evo.refl (jb :: ob.toList) w65) ?_; refine ae_takeN 21 rfl rfl rfl rfl rfl rfl (by kernel_rfl) (by kernel_rfl) (by kernel_rfl) rfl (Evo.refl (jb :: ob.toList) w65) ?_; refine ae_takeN 22 rfl rfl rfl rfl rfl rfl (by kernel_rfl) (by kernel_rfl) (by kernel_rfl) rfl (Evo.refl (jb :: ob.toList) w65) ?_; refine ae_takeN 23 rfl rfl rfl rfl rfl rfl (by kernel_rfl) (by kernel_rfl) (by kernel_rfl) rfl (Evo.refl (jb :: ob.toList) w65) ?_; refine ae_loud [24] (by kernel_rfl) rfl ⟨?_, trivial⟩; refine a_step rfl ?_; refine wl_n ?_; refine wl_nil (ae_next (.inl (Evo.refl (jb :: ob.toList) w65)) ?_); refine ae_takeN 25 rfl rfl rfl rfl rfl rfl (by kernel_rfl) (by kernel_rfl) (by kernel_rfl) rfl (Evo.refl (jb :: ob.toList) w65) ?_
                 refine ae_take 26 rfl (by kernel_rfl) (by kernel_rfl) (by kernel_rfl) rfl (fun _ hS => ex_pick_t rfl rfl) (Evo.refl (jb :: ob.toList) w65) ?_; refine ae_done (by kernel_rfl) (nrm_then ?_); refine cw_true rfl ?_; refine cw_seq ?_; refine cw_region ?_; refine wl_a ?_; refine wl_nil (nrm_then ?_); refine cw_ret (ret_then (ret_block (ret_then (ret_then (body_ret1 rfl rfl ?_)))))
                 have hno := fine_no (x := t) (b := b) (st := st) (fun h => by obtain ⟨h1, h2, h3, h4⟩ := h; have hf := (nodeP_iff t).1 h3; (have := (h4 (by omega)).1; omega))
                 exact ⟨false, rfl, by rw [hno]; rfl, hE67, fun st' h => by rw [hno] at h; cases h⟩
                ·skip
                 refine ae_takeG 14 rfl rfl rfl rfl rfl (by kernel_rfl) (by kernel_rfl) (by kernel_rfl) rfl (fun _ hS => ex_move rfl) (Evo.refl (jb :: ob.toList) w65) ?_; refine ae_takeG 15 rfl rfl rfl rfl rfl (by kernel_rfl) (by kernel_rfl) (by kernel_rfl) rfl (fun _ hS => ex_nilCheck rfl) (Evo.refl (jb :: ob.toList) w65) ?_; refine ae_takeG 16 rfl rfl rfl rfl rfl (by kernel_rfl) (by kernel_rfl) (by kernel_rfl) rfl (fun _ hS => ex_fieldAddr rfl Tryz.fld145_1) (Evo.refl (jb :: ob.toList) w65) ?_; refine ae_loud [17] (by kernel_rfl) rfl ⟨?_, trivial⟩; refine a_step rfl ?_; refine wl_g ?_; refine wl_val rfl (ex_load1 rfl Tryz.agg3 (cell_nth hB68 rfl)) ?_; refine wl_nil (ae_next (.inl (Evo.refl (jb :: ob.toList) w65)) ?_); refine ae_takeG 18 rfl rfl rfl rfl rfl (by kernel_rfl) (by kernel_rfl) (by kernel_rfl) rfl (fun _ hS => ex_gtr rfl rfl) (Evo.refl (jb :: ob.toList) w65) ?_; refine ae_take 19 rfl (by kernel_rfl) (by kernel_rfl) (by kernel_rfl) rfl (fun _ hS => ex_pick_f rfl rfl) (Evo.refl (jb :: ob.toList) w65) ?_; refine ae_take 20 rfl (by kernel_rfl) (by kernel_rfl) (by kernel_rfl) rfl (fun _ hS => ex_move rfl) (Evo.refl (jb :: ob.toList) w65) ?_; refine ae_split (t := 139) rfl (fun hs139 => ?_) (fun hs139 => ?_)
                 ·skip
                  refine ae_takeN 21 rfl rfl rfl rfl rfl rfl (by kernel_rfl) (by kernel_rfl) (by kernel_rfl) rfl (Evo.refl (jb :: ob.toList) w65) ?_; refine ae_takeN 22 rfl rfl rfl rfl rfl rfl (by kernel_rfl) (by kernel_rfl) (by kernel_rfl) rfl (Evo.refl (jb :: ob.toList) w65) ?_; refine ae_takeN 23 rfl rfl rfl rfl rfl rfl (by kernel_rfl) (by kernel_rfl) (by kernel_rfl) rfl (Evo.refl (jb :: ob.toList) w65) ?_; refine ae_loud [24] (by kernel_rfl) rfl ⟨?_, trivial⟩; refine a_step rfl ?_; refine wl_n ?_; refine wl_nil (ae_next (.inl (Evo.refl (jb :: ob.toList) w65)) ?_); refine ae_takeN 25 rfl rfl rfl rfl rfl rfl (by kernel_rfl) (by kernel_rfl) (by kernel_rfl) rfl (Evo.refl (jb :: ob.toList) w65) ?_; refine ae_take 26 rfl (by kernel_rfl) (by kernel_rfl) (by kernel_rfl) rfl (fun _ hS => ex_pick_t rfl rfl) (Evo.refl (jb :: ob.toList) w65) ?_; refine ae_done (by kernel_rfl) (nrm_then ?_); refine cw_true rfl ?_; refine cw_seq ?_; refine cw_region ?_; refine wl_a ?_; refine wl_nil (nrm_then ?_); refine cw_ret (ret_then (ret_block (ret_then (ret_then (body_ret1 rfl rfl ?_)))))
                  have hno := fine_no (x := t) (b := b) (st := st) (fun h => by obtain ⟨h1, h2, h3, h4⟩ := h; have hf := (nodeP_iff t).1 h3; (have := (h4 (by omega)).1; have := (h4 (by omega)).2.1; omega))
                  exact ⟨false, rfl, by rw [hno]; rfl, hE67, fun st' h => by rw [hno] at h; cases h⟩
                 ·skip
                  refine ae_takeG 21 rfl rfl rfl rfl rfl (by kernel_rfl) (by kernel_rfl) (by kernel_rfl) rfl (fun _ hS => ex_move rfl) (Evo.refl (jb :: ob.toList) w65) ?_; have hszc := (hE67).size; have hlt5 := Lt.blk hB70; refine ae_takeG 22 rfl rfl rfl rfl rfl (by kernel_rfl) (by kernel_rfl) (by kernel_rfl) rfl (fun _ hS => ex_fieldAddr rfl Tryz.fld25_7) (Evo.refl (jb :: ob.toList) w65) ?_; refine ae_takeG 23 rfl rfl rfl rfl rfl (by kernel_rfl) (by kernel_rfl) (by kernel_rfl) rfl (fun _ hS => ex_load1 rfl Tryz.agg9 (cell_nth (hS.blk hB70 (nmem2 hA5.symm hA6.symm)) rfl)) (Evo.refl (jb :: ob.toList) w65) ?_; refine ae_loud [24] (by kernel_rfl) rfl ⟨?_, trivial⟩; refine a_step rfl ?_; refine wl_g ?_; refine wl_call1 (vs := [_, _]) Tryz.goes134 rfl (name_ok ⟨hB68, hO69, hne⟩ (by omega) bl2) rfl ?_; rintro _ w71 ⟨gb, rfl, hgb, hw72, hgs⟩; have hE73 := hE67.step hw72 (fun y hy => .inl hy); have hE74 := (Evo.refl (jb :: ob.toList) w65).step hw72 (fun y hy => .inl hy); have hB75 := hw72.blk hB70 (nmem2 hA5.symm hA6.symm); refine wl_nil (ae_next (.inl hE74) ?_); refine ae_takeG 25 rfl rfl rfl rfl rfl (by kernel_rfl) (by kernel_rfl) (by kernel_rfl) rfl (fun _ hS => ex_notb rfl) hE74 ?_; refine ae_take 26 rfl (by kernel_rfl) (by kernel_rfl) (by kernel_rfl) rfl (fun _ hS => ex_pick_f rfl rfl) hE74 ?_; refine ae_done (by kernel_rfl) (nrm_then ?_); refine cw_ifb rfl (fun hc145 => ?_) (fun hc145 => ?_)
                  ·skip
                   refine cw_seq ?_; refine cw_region ?_; refine wl_a ?_; refine wl_nil (nrm_then ?_); refine cw_ret (ret_then (ret_block (ret_then (ret_then (body_ret1 rfl rfl ?_)))))
                   have hno := fine_no (x := t) (b := b) (st := st) (fun h => by obtain ⟨h1, h2, h3, h4⟩ := h; have hf := (nodeP_iff t).1 h3; (have := hgb.2 (h4 (by omega)).2.2; rw [this] at hc145; cases hc145))
                   exact ⟨false, rfl, by rw [hno]; rfl, hE73, fun st' h => by rw [hno] at h; cases h⟩
                  ·skip
                   obtain ⟨a2, c2, ob2, hJ2, hob2⟩ := hgs (by simpa using hc145); have hgb2 := hgb.1 (by simpa using hc145); have hAq5 := ap_ob hA6.symm hlt5 hob2
                   have hg9 : ∀ g, ob2 = some g → g ∈ ob.toList ∨ w.heap.size ≤ g := fun g hg => by rcases hob2 with h | ⟨g', h1, h2⟩; left; rw [← h, hg]; simp; right; rw [hg] at h1; cases h1; exact Nat.le_trans hszc h2
                   refine cw_skip (nrm_then ?_); refine cw_seq ?_; refine cw_region ?_; refine wl_m ?_; refine wl_val rfl (ex_add_i64 rfl rfl (by omega) (by omega)) ?_; refine wl_a ?_; refine wl_nil (nrm_then ?_); refine cw_seq ?_; refine cw_region ?_; refine wl_m ?_; refine wl_val rfl (ex_gtr rfl rfl) ?_; refine wl_nil (nrm_then ?_); refine cw_if rfl (fun hc149 => ?_) (fun hc149 => ?_)
                   ·skip
                    refine cw_seq ?_; refine cw_region ?_; refine wl_a ?_; refine wl_nil (nrm_then ?_); refine cw_ret (ret_block (ret_then (ret_then (body_ret1 rfl rfl ?_))))
                    have hno := fine_no (x := t) (b := b) (st := st) (fun h => by obtain ⟨h1, h2, h3, h4⟩ := h; have hf := (nodeP_iff t).1 h3; (rw [if_pos (by omega)] at h2; omega))
                    exact ⟨false, rfl, by rw [hno]; rfl, hE73, fun st' h => by rw [hno] at h; cases h⟩
                   ·skip
                    refine cw_skip (nrm_block (nrm_same ?_)); refine ⟨(z + 1, (st.1 + 1, st.2 ++ [t.name]), a2, c2, ob2), ⟨rfl, trivial⟩, ⟨rfl, rfl, trivial⟩, hE73, ?_⟩
                    have hfin0 := fine_yes (x := t) (b := b) (st := st) ⟨by omega, (by rw [if_pos (by omega)]; omega), (nodeP_iff t).2 ⟨by omega, by omega, hba.zr, hba.zg, hba.zm1, hba.zm2, hba.zl, hba.zc, hba.zn, fun k => by omega, fun k => by omega, fun k => by omega, fun k => by omega, fun k => by omega, fun k => by omega, fun k => by omega, fun k => by omega, fun k => by omega, hba.zk⟩, fun _ => ⟨by omega, by omega, hgb2⟩⟩
                    refine ⟨by simp only; omega, by simp only; rw [if_pos (by omega)], ?_, ?_, hg9, hB75, nmem2 hA5.symm hAq5⟩
                    · rw [hfin0, if_pos (by omega), if_pos (by omega), hz]
                    · exact ⟨by simpa [List.length_append] using hJ2.blk, hJ2.own, hJ2.ne⟩
              ·skip
               refine cw_skip (nrm_block (nrm_same ?_)); refine ⟨(z, (st.1 + 1, st.2), a, c, ob), ⟨rfl, trivial⟩, ⟨rfl, rfl, trivial⟩, hE32, ?_⟩
               have hfin0 := fine_yes (x := t) (b := b) (st := st) ⟨by omega, (by rw [if_neg (by omega)]; omega), (nodeP_iff t).2 ⟨by omega, by omega, hba.zr, hba.zg, hba.zm1, hba.zm2, hba.zl, hba.zc, hba.zn, fun k => by omega, fun k => by omega, fun k => by omega, fun k => by omega, fun k => by omega, fun k => by omega, fun k => by omega, fun k => by omega, fun k => by omega, hba.zk⟩, fun h => by omega⟩
               refine ⟨by simp only; omega, by simp only; rw [if_neg (by omega)], ?_, ?_, fun g hg => .inl (by have h9 : ob = some g := hg; simp [h9]), hB35, nmem2 hA5.symm hA6.symm⟩
               · rw [hfin0, if_neg (by omega), if_neg (by omega), hz]
               · exact ⟨by simpa [List.length_append] using hB33, hO34, hne⟩
        ·skip
         rintro ⟨z2, s0, a', c', o'⟩ w76 ⟨hV77, ⟨hz2, hs0, hfin0, ⟨hB', hO', hne'⟩, hgo, hB5, hb5o⟩⟩; refine nrm_then ?_; show CW _ _ _ _ [(3, .int .i64 z2), (0, _), (5, _)] _
         try dsimp only at hz2
         try dsimp only at hs0
         try dsimp only at hfin0
         try dsimp only at hB'
         try dsimp only at hO'
         try dsimp only at hne'
         try dsimp only at hgo
         try dsimp only at hB5
         try dsimp only at hb5o
         have hAJN' : Apart (some jb) o' := fun g h1 h2 => by cases h1; exact hne' jb h2 rfl
         have hA5J : Apart (some b5) (some jb) := fun g h1 h2 => by cases h1; cases h2; exact hb5o (by simp)
         have hA5N : Apart (some b5) o' := fun g h1 h2 => by cases h1; exact hb5o (by simp [h2])
         have hyo : ∀ y, y ∈ jb :: o'.toList → y ∈ jb :: ob.toList ∨ w.heap.size ≤ y := fun y hy => by rcases List.mem_cons.1 hy with h | h; left; rw [h]; simp; rcases hgo y (by simpa using h) with h1 | h1; left; exact List.mem_cons_of_mem _ h1; exact .inr h1
         have hsok0 : StOk s0 := by rw [hs0]; exact ⟨by show (if t.kind = 7 then st.2 ++ [t.name] else st.2).length ≤ st.1 + 1; split; (rw [List.length_append]; simp; omega); omega, by show st.1 + 1 ≤ 8194; omega⟩
         refine cw_seq ?_; refine cw_seq ?_; refine cw_region ?_; refine wl_a ?_; refine wl_nil (nrm_then ?_); refine cw_block ?_; refine cw_loop (α := Nat × St × Option Addr × Nat × Option Nat) ((0, s0, a', c', o')) (fun x => [(9, .int .i64 (x.1 : Nat))]) [(0, _), (3, _), (5, _)] (fun x wr => Evo (jb :: ob.toList) w wr ∧ (x.1 ≤ t.kids.length ∧ StOk x.2.1 ∧ t.fine b st = fineKids (t.kids.drop x.1) t.kind z2 x.2.1 ∧ CAt wr jb x.2.1.1 x.2.1.2.length x.2.1.2 x.2.2.1 x.2.2.2.1 x.2.2.2.2 ∧ (∀ g, x.2.2.2.2 = some g → g ∈ ob.toList ∨ w.heap.size ≤ g) ∧ wr.heap[b5]? = some (.cells #[iv t.kind, .int .i32 t.r, .slice ra t.ranges.length rc, iv t.min, iv t.max, .bool t.lazy, iv t.cap, .string t.name, .slice ka t.kids.length kc] 25 (0, 0)) ∧ b5 ∉ jb :: x.2.2.2.2.toList)) (fun x => t.kids.length - x.1) ⟨rfl, trivial⟩ ⟨rfl, rfl, rfl, trivial⟩ ⟨hV77, ⟨Nat.zero_le _, hsok0, hfin0, ⟨hB', hO', hne'⟩, hgo, hB5, hb5o⟩⟩ ?_; rintro ⟨j, s, a', c', o'⟩ wr78 ⟨hV79, ⟨hj, hsok, hfin, ⟨hB', hO', hne'⟩, hgo, hB5, hb5o⟩⟩; show CW _ _ _ _ [(9, .int .i64 (j : Nat)), (0, _), (3, _), (5, _)] _
         try dsimp only at hj
         try dsimp only at hsok
         try dsimp only at hfin
         try dsimp only at hB'
         try dsimp only at hO'
         try dsimp only at hne'
         try dsimp only at hgo
         try dsimp only at hB5
         try dsimp only at hb5o
         have hAJN' : Apart (some jb) o' := fun g h1 h2 => by cases h1; exact hne' jb h2 rfl
         have hA5J : Apart (some b5) (some jb) := fun g h1 h2 => by cases h1; cases h2; exact hb5o (by simp)
         have hA5N : Apart (some b5) o' := fun g h1 h2 => by cases h1; exact hb5o (by simp [h2])
         have hyo : ∀ y, y ∈ jb :: o'.toList → y ∈ jb :: ob.toList ∨ w.heap.size ≤ y := fun y hy => by rcases List.mem_cons.1 hy with h | h; left; rw [h]; simp; rcases hgo y (by simpa using h) with h1 | h1; left; exact List.mem_cons_of_mem _ h1; exact .inr h1
         refine cw_seq ?_; refine cw_seq ?_; refine cw_region ?_; refine wl_m ?_; refine wl_val rfl (ex_fieldAddr rfl Tryz.fld25_8) ?_; refine wl_val rfl (ex_load1 rfl Tryz.agg23 (cell_nth hB5 rfl)) ?_; refine wl_val rfl (ex_len_slice rfl Tryz.underlying23 rfl) ?_; refine wl_val rfl (ex_lss rfl rfl) ?_; refine wl_nil (nrm_then ?_); refine cw_if rfl (fun hc154 => ?_) (fun hc154 => ?_)
         ·skip
          have hj' : j < t.kids.length := by omega
          obtain ⟨b1, o1, vs1, ha1, hb1, hvl1, hc1, hrk⟩ := e1 j hj'; obtain ⟨m1, ra1, rc1, ka1, kc1, rfl, rfl, -⟩ := id hrk.get; refine cw_skip (nrm_then ?_); refine cw_seq ?_; refine cw_block ?_; refine cw_seq ?_; refine cw_any (fun w0 w' => Evo (jb :: o'.toList) w0 w') (by kernel_rfl) (fun w80 hw81 => ?_); have hE82 := hV79.then hw81; have hB83 := hw81.blk0 hB'; have hO84 := hO'.evo0 hw81; have hB85 := hw81.blk0 hB5; refine ae_take 0 rfl (by kernel_rfl) (by kernel_rfl) (by kernel_rfl) rfl (fun _ hS => ex_move rfl) (Evo.refl (jb :: o'.toList) w80) ?_; refine ae_take 1 rfl (by kernel_rfl) (by kernel_rfl) (by kernel_rfl) rfl (fun _ hS => ex_fieldAddr rfl Tryz.fld25_8) (Evo.refl (jb :: o'.toList) w80) ?_; refine ae_take 2 rfl (by kernel_rfl) (by kernel_rfl) (by kernel_rfl) rfl (fun _ hS => ex_load1 rfl Tryz.agg23 (cell_nth (hS.blk hB85 (nmem2 hA5J hA5N)) rfl)) (Evo.refl (jb :: o'.toList) w80) ?_; refine ae_take 3 rfl (by kernel_rfl) (by kernel_rfl) (by kernel_rfl) rfl (fun _ hS => ex_move rfl) (Evo.refl (jb :: o'.toList) w80) ?_
          refine ae_take 4 rfl (by kernel_rfl) (by kernel_rfl) (by kernel_rfl) rfl (fun _ hS => ex_indexAddr (n := j) (by rw [ha1]; rfl) rfl Tryz.elem23 (by omega)) (Evo.refl (jb :: o'.toList) w80) ?_
          refine ae_take 5 rfl (by kernel_rfl) (by kernel_rfl) (by kernel_rfl) rfl (fun _ hS => ex_loadA rfl Tryz.agg25 Tryz.size25 (vs := [_, _, _, _, _, _, _, _, _]) rfl (hc1.evo (hE82.step hS (hyo)) hb1)) (Evo.refl (jb :: o'.toList) w80) ?_; refine ae_take 6 rfl (by kernel_rfl) (by kernel_rfl) (by kernel_rfl) rfl (fun _ hS => ex_fieldAddr rfl Tryz.fld25_0) (Evo.refl (jb :: o'.toList) w80) ?_; refine ae_take 7 rfl (by kernel_rfl) (by kernel_rfl) (by kernel_rfl) rfl (fun _ hS => ex_load1 rfl Tryz.agg3 (cell_nth (hS.blk hB85 (nmem2 hA5J hA5N)) rfl)) (Evo.refl (jb :: o'.toList) w80) ?_; refine ae_take 8 rfl (by kernel_rfl) (by kernel_rfl) (by kernel_rfl) rfl (fun _ hS => ex_move rfl) (Evo.refl (jb :: o'.toList) w80) ?_; refine ae_loud [9] (by kernel_rfl) rfl ⟨?_, trivial⟩; refine a_step rfl ?_; have hsz54 := (hE82).size; have hlb5 := blk_lt hB85; refine wl_call1 (vs := [_, _, _, _]) Tryz.goes84 rfl (ih ⟨hB83, hO84, hne'⟩ (RRx.step hrk hE82 hyo hXlt) hsok (by omega) (by omega)) rfl ?_; rintro _ w86 ⟨r, rfl, hr, hw87, hs2⟩; have hE88 := hE82.step hw87 (hyo); have hE89 := (Evo.refl (jb :: o'.toList) w80).step hw87 (fun y hy => .inl hy); have hB90 := hw87.blk hB85 (nmem2 hA5J hA5N); refine wl_nil (ae_next (.inl hE89) ?_); refine ae_take 10 rfl (by kernel_rfl) (by kernel_rfl) (by kernel_rfl) rfl (fun _ hS => ex_assign rfl) hE89 ?_; refine ae_done (by kernel_rfl) (nrm_then ?_); refine cw_seq ?_; refine cw_region ?_; refine wl_m ?_; refine wl_val rfl (ex_notb rfl) ?_; refine wl_nil (nrm_then ?_); refine cw_ifb rfl (fun hc168 => ?_) (fun hc168 => ?_)
          ·skip
           refine cw_seq ?_; refine cw_region ?_; refine wl_a ?_; refine wl_nil (nrm_then ?_); refine cw_ret (ret_block (ret_then (ret_then (ret_block (ret_then (body_ret1 rfl rfl ?_))))))
           have hn : t.kids[j].fine (z2 + if Brk t.kids[j].kind t.kind then 1 else 0) s = none := by
             cases h : t.kids[j].fine (z2 + if Brk t.kids[j].kind t.kind then 1 else 0) s with
             | none => rfl
             | some s3 => rw [h] at hr; simp at hr; rw [hr] at hc168; cases hc168
           have hno : t.fine b st = none := by rw [hfin, fineKids_at hj', hn]
           exact ⟨false, rfl, by rw [hno]; rfl, hE88, fun st' h => by rw [hno] at h; cases h⟩
          ·skip
           obtain ⟨s3, hs3⟩ := Option.isSome_iff_exists.1 (show (t.kids[j].fine _ s).isSome = true by rw [← hr]; simpa using hc168)
           obtain ⟨hsok3, a3, c3, o3, hJ3, ho3⟩ := hs2 s3 hs3
           have hg3 : ∀ g, o3 = some g → g ∈ ob.toList ∨ w.heap.size ≤ g := fun g hg => by rcases ho3 g hg with h | h; exact hgo g (by simpa using h); exact .inr (Nat.le_trans hsz54 h)
           have hb53 : b5 ∉ jb :: o3.toList := fun hm => by rcases List.mem_cons.1 hm with h | h; exact hb5o (by rw [h]; simp); rcases ho3 b5 (by simpa using h) with h1 | h1; exact hb5o (List.mem_cons_of_mem _ h1); omega
           refine cw_skip (nrm_block (nrm_then ?_)); refine cw_region ?_; refine wl_m ?_; refine wl_val rfl (ex_add_i64 rfl rfl (by omega) (by omega)) ?_; refine wl_a ?_; refine wl_nil (nrm_same ?_); refine ⟨(j + 1, s3, a3, c3, o3), ?_, ⟨rfl, trivial⟩, ⟨rfl, rfl, rfl, trivial⟩, hE88, ?_⟩
           · (try dsimp only); omega
           ·skip
            try dsimp only
            refine ⟨by omega, hsok3, ?_, ⟨hJ3.blk, hJ3.own, hJ3.ne⟩, hg3, hB90, hb53⟩; rw [hfin, fineKids_at hj', hs3]
         ·skip
          refine cw_exit (ex_then (ex_then (ex_here (nrm_then ?_)))); refine cw_seq ?_; refine cw_region ?_; refine wl_a ?_; refine wl_nil (nrm_then ?_); refine cw_ret (body_ret1 rfl rfl ?_)
          have hn : t.fine b st = some s := by rw [hfin, fineKids_end (by omega)]
          exact ⟨true, rfl, by rw [hn]; rfl, hV79, fun st' h => by rw [hn] at h; cases h; exact ⟨hsok, a', c', o', ⟨hB', hO', hne'⟩, hgo⟩⟩
theorem cvalid_ok : ∀ {n : Nat} {w : World} {jb : Nat} {st : St} {a : Option Addr} {c : Nat} {ob : Option Nat} {vs : List Value} {t : Rx} {k b0 : Int} (hJ : CAt w jb st.1 st.2.length st.2 a c ob) (hx : RRx n (jb :: ob.toList) w vs t) (hst : StOk st) (hb0 : 0 ≤ b0) (hb1 : b0 ≤ 251), Calls Tryz.prog 84 #[.pointer (some ⟨jb, 0, none⟩), .agg vs.toArray, .int .i64 k, .int .i64 b0] w (Ret fun v w' => ∃ r, v = .bool r ∧ r = (t.fine (b0 + (if Brk t.kind k then 1 else 0)) st).isSome ∧ Evo (jb :: ob.toList) w w' ∧ ∀ st', t.fine (b0 + (if Brk t.kind k then 1 else 0)) st = some st' → StOk st' ∧ ∃ a' c' ob', CAt w' jb st'.1 st'.2.length st'.2 a' c' ob' ∧ ∀ g, ob' = some g → g ∈ ob.toList ∨ w.heap.size ≤ g)
  | 0, w, jb, st, a, c, ob, vs, t, k, b0, hJ, hx, hs, h0, h1 => hx.elim
  | n + 1, w, jb, st, a, c, ob, vs, t, k, b0, hJ, hx, hs, h0, h1 => cvalid_step (n := n) (fun hJ hx hs h0 h1 => cvalid_ok hJ hx hs h0 h1) hJ hx hs h0 h1
theorem CAt.new {w : World} {jb : Nat} (h : w.heap[jb]? = some (.cells #[iv 0, iv 0, .slice none 0 0] 145 (0, 0))) : CAt w jb 0 0 [] none 0 none := ⟨h, OwnS.nil _ _ _, fun g hg => by cases hg⟩
theorem refValid_ok {n : Nat} {w : World} {vs : List Value} {t : Rx} (hx : RRx n [] w vs t) :
    Calls Tryz.prog 41 #[.agg vs.toArray] w (Ret fun v w' => ∃ r, v = .bool r ∧ (r = true ↔ t.Ok) ∧ Evo [] w w') := by
  have hx0 := hx; obtain ⟨m, ra, rc, ka, kc, hm, rfl, hrg, hk, bl1, bl2, bl3⟩ := hx.get; refine calls_of_cw (N := 9) Tryz.func41 rfl rfl rfl ?_; refine cw_seq ?_; refine cw_region ?_; refine wl_boxA rfl rfl fun b1 w2 hB3 hs4 hw5 => ?_; have hG6 := Ge.new (Evo.refl [] w) hs4; have hE7 := (Evo.refl [] w).then hw5; refine wl_a ?_; refine wl_nil (nrm_then ?_); refine cw_seq ?_; refine cw_region ?_; refine wl_val rfl (ex_build (vs := []) Tryz.build145 rfl (cells := [_, _, _]) rfl) ?_; refine wl_boxA rfl rfl fun jb w8 hB9 hs10 hw11 => ?_; have hsz_jb := hs10; have hA12 := Apart.new (Lt.blk hB3) hs10; have hG13 := Ge.new hE7 hs10; have hE14 := hE7.then hw11; have hB15 := hw11.blk0 hB3; refine wl_a ?_; refine wl_nil (nrm_then ?_); refine cw_seq ?_; refine cw_region ?_; refine wl_m ?_; refine wl_val rfl (ex_loadBlk rfl Tryz.agg25 Tryz.size25 hB15 rfl) ?_; refine wl_call1 (vs := [_, _, _, _]) Tryz.goes84 rfl (cvalid_ok (st := (0, [])) (k := 0) (b0 := 0) (CAt.new hB9) (RRx.step hx0 hE14 hG13.mem1 (fun b hb => by cases hb)) ⟨Nat.le_refl _, by decide⟩ (by decide) (by decide)) rfl ?_; rintro _ w16 ⟨r, rfl, hr, hw17, -⟩; have hE18 := hE14.step hw17 (hG13.mem1); refine wl_a ?_; refine wl_nil (nrm_then ?_); refine cw_ret (body_ret1 rfl rfl ?_)
  exact ⟨r, rfl, by rw [hr, Option.isSome_iff_exists, show (0 + (if Brk t.kind 0 then 1 else 0) : Int) = 0 from by rw [if_neg (by unfold Brk; omega)]; rfl]; rfl, hE18⟩
end Go.Proofs.YtgnpldackjbdjaaGreat
namespace Go.Proofs.YtgnpldackjbdjaaGreat
open Go.Proofs
open Go.W Go.RowKit
attribute [local irreducible] Decidable.decide
set_option linter.unusedSimpArgs false
set_option linter.unusedVariables false
theorem Tryz.goes41 : Goes Tryz.prog 41 := ⟨_, Tryz.func41, by kernel_rfl, by kernel_rfl⟩
theorem Tryz.goes85 : Goes Tryz.prog 85 := ⟨_, Tryz.func85, by kernel_rfl, by kernel_rfl⟩
theorem Tryz.goes38 : Goes Tryz.prog 38 := ⟨_, Tryz.func38, by kernel_rfl, by kernel_rfl⟩
theorem Tryz.goes71 : Goes Tryz.prog 71 := ⟨_, Tryz.func71, by kernel_rfl, by kernel_rfl⟩
theorem cap_two {E s e : Int} (he : e = E + 2) (hs : s = min E 10001) : min (s + 2) 10001 = min e 10001 := by subst he hs; omega
theorem ite_min (a b : Int) : (if b < a then b else a) = min a b := by omega
theorem step_cap {a b : Nat} {s r : Int} (hs : s = min (a : Int) 10001) (hr : r = min (b : Int) 10001) : min (s + r) 10001 = min (((a + b : Nat) : Int)) 10001 := by subst hs hr; omega
set_option maxHeartbeats 4000000 in
theorem size_step {n : Nat} (ih : ∀ {X : List Nat} {w : World} {vs : List Value} {t : Rx} (hx : RRx n X w vs t) (hg : Good t), Calls Tryz.prog 71 #[.agg vs.toArray] w (Ret fun v w' => v = .int .i64 (min (t.esz : Int) 10001) ∧ Evo [] w w')) {X : List Nat} {w : World} {vs : List Value} {t : Rx} (hx : RRx (n + 1) X w vs t) (hg : Good t) : Calls Tryz.prog 71 #[.agg vs.toArray] w (Ret fun v w' => v = .int .i64 (min (t.esz : Int) 10001) ∧ Evo [] w w') := by
  have hx0 := hx; obtain ⟨m, ra, rc, ka, kc, hm, rfl, hrg, hk, bl1, bl2, bl3⟩ := hx.get
  obtain rfl : m = n := by omega
  obtain ⟨_, _, hke, hkc, e1⟩ := hk; cases hke; have hn := (nodeP_iff t).1 hg.node; refine calls_of_cw (N := 64) Tryz.func71 rfl rfl rfl ?_; refine cw_seq ?_; refine cw_region ?_; refine wl_boxA rfl rfl fun b1 w2 hB3 hs4 hw5 => ?_; have hG6 := Ge.new (Evo.refl [] w) hs4; have hE7 := (Evo.refl [] w).then hw5; refine wl_a ?_; refine wl_nil (nrm_then ?_); refine cw_seq ?_; refine cw_region ?_; refine wl_a ?_; refine wl_nil (nrm_then ?_); refine cw_seq ?_; refine cw_seq ?_; refine cw_region ?_; refine wl_val rfl (ex_fieldAddr rfl Tryz.fld25_8) ?_; refine wl_val rfl (ex_load1 rfl Tryz.agg23 (cell_nth hB3 rfl)) ?_; refine wl_val rfl (ex_len_slice rfl Tryz.underlying23 rfl) ?_; refine wl_m ?_; refine wl_nil (nrm_then ?_); refine cw_block ?_
  refine cw_loop (α := Nat × Int) ((0, 0)) (fun x => [(3, .int .i64 x.2), (9, .int .i64 (x.1 : Nat))]) [(1, _), (2, _), (7, _), (8, _)] (fun x wr => Evo [] w2 wr ∧ (x.1 ≤ t.kids.length ∧ x.2 = min (eszs (t.kids.take x.1) : Int) 10001)) (fun x => t.kids.length - x.1) ⟨rfl, rfl, trivial⟩ ⟨rfl, rfl, rfl, rfl, trivial⟩ ⟨Evo.refl _ _, ⟨Nat.zero_le _, by simp only [List.take_zero]; rfl⟩⟩ ?_
  rintro ⟨j, s⟩ wr8 ⟨hV9, ⟨hj, hs⟩⟩; show CW _ _ _ _ [(3, .int .i64 s), (9, .int .i64 (j : Nat)), (1, _), (2, _), (7, _), (8, _)] _
  try dsimp only at hj
  try dsimp only at hs
  have hE10 := hE7.then hV9; have hB11 := hV9.blk0 hB3; refine cw_seq ?_; refine cw_region ?_; refine wl_val rfl (ex_lss rfl rfl) ?_; refine wl_nil (nrm_then ?_); refine cw_seq ?_; refine cw_if rfl (fun hc10 => ?_) (fun hc10 => ?_)
  ·skip
   have hj' : j < t.kids.length := by omega
   obtain ⟨b1, o1, vs1, ha1, hb1, hvl1, hc1, hrk⟩ := e1 j hj'; obtain ⟨m1, ra1, rc1, ka1, kc1, rfl, rfl, -⟩ := id hrk.get; refine cw_skip (nrm_then ?_); refine cw_seq ?_; refine cw_block ?_; refine cw_seq ?_; refine cw_region ?_
   refine wl_val rfl (ex_indexAddr (n := j) (by rw [ha1]; rfl) rfl Tryz.elem23 (by omega)) ?_
   refine wl_val rfl (ex_loadA rfl Tryz.agg25 Tryz.size25 (vs := [_, _, _, _, _, _, _, _, _]) rfl (hc1.evo hE10 (by simp))) ?_; refine wl_alloc rfl Tryz.zero25 fun b12 w13 hB14 hs15 hw16 => ?_; have hA17 := Apart.new (Lt.blk hB11) hs15; have hG18 := Ge.new hE10 hs15; have hG19 := Ge.new hV9 hs15; have hE20 := hE10.then hw16; have hE21 := hV9.then hw16; have hB22 := hw16.blk0 hB11; refine wl_storeBlk rfl rfl Tryz.size25 hB14 rfl rfl ⟨by first | rfl | assumption, by first | rfl | assumption, by first | rfl | assumption, by first | rfl | assumption, by first | rfl | assumption, by first | rfl | assumption, by first | rfl | assumption, by first | rfl | assumption, by first | rfl | assumption, trivial⟩ fun w23 hB24 hw25 => ?_; have hE26 := hE20.step hw25 hG18.mem1; have hE27 := hE21.step hw25 hG19.mem1; have hB28 := hw25.blk hB22 hA17.nmem1; refine wl_nil (nrm_then ?_); refine cw_region ?_; refine wl_m ?_; refine wl_val rfl (ex_loadBlk rfl Tryz.agg25 Tryz.size25 hB24 rfl) ?_; refine wl_call1 (vs := [_]) Tryz.goes71 rfl (ih (RRx.pers _ _ _ _ _ _ (hE26.mono (fun b hb => by cases hb)) hrk) (hg.kid _ (List.getElem_mem hj'))) rfl ?_; rintro _ w29 ⟨rfl, hw30⟩; have hE31 := hE26.then hw30; have hE32 := hE27.then hw30; have hB33 := hw30.blk0 hB28; have hB34 := hw30.blk0 hB24; refine wl_val rfl (ex_add_i64 rfl rfl (by omega) (by omega)) ?_; refine wl_val rfl (ex_min rfl rfl) ?_; refine wl_a ?_; refine wl_nil (nrm_block (nrm_then ?_)); refine cw_region ?_; refine wl_val rfl (ex_add_i64 rfl rfl (by omega) (by omega)) ?_; refine wl_m ?_; refine wl_nil (nrm_same ?_); refine ⟨(j + 1, if 10001 < s + min (t.kids[j].esz : Int) 10001 then 10001 else s + min (t.kids[j].esz : Int) 10001), ?_, ⟨rfl, rfl, trivial⟩, ⟨rfl, rfl, rfl, rfl, trivial⟩, hE32, ?_⟩
   · (try dsimp only); omega
   ·skip
    try dsimp only
    exact ⟨by omega, by rw [eszs_take hj', ite_min]; exact step_cap hs rfl⟩
  ·skip
   have hall : s = min (eszs t.kids : Int) 10001 := by rw [hs, List.take_of_length_le (by omega)]
   have hs0 : 0 ≤ s := by omega
   have hs1 : s ≤ 10001 := by omega
   refine cw_exit (ex_then (ex_then (ex_here (nrm_then ?_)))); refine cw_seq ?_; refine cw_seq ?_; refine cw_region ?_; refine wl_val rfl (ex_fieldAddr rfl Tryz.fld25_0) ?_; refine wl_val rfl (ex_load1 rfl Tryz.agg3 (cell_nth hB11 rfl)) ?_; refine wl_nil (nrm_then ?_); refine cw_block ?_; refine cw_seq ?_; refine cw_seq ?_; refine cw_region ?_; refine wl_val rfl (ex_eql rfl rfl) ?_; refine wl_a ?_; refine wl_nil (nrm_then ?_); refine cw_if rfl (fun hc21 => ?_) (fun hc21 => ?_)
   ·skip
    refine cw_skip (nrm_then ?_); refine cw_if rfl (fun hc21 => ?_) (fun hc21 => ?_)
    ·skip
     refine cw_skip (nrm_block (nrm_then ?_)); refine cw_seq ?_; refine cw_region ?_; refine wl_m ?_; refine wl_val rfl (ex_min rfl rfl) ?_; refine wl_a ?_; refine wl_nil (nrm_then ?_); refine cw_ret (body_ret1 rfl rfl ?_); refine ⟨congrArg (Value.int .i64) ?_, hE10⟩; rw [ite_min]
     first | (rw [esz1 (by omega), hall]; have hk0 : t.kids = [] := hg.node.leaf (by unfold Leafy; omega); rw [hk0]; rfl) | (rw [esz4 (by omega), hall]; omega)
    ·skip
     refine cw_seq ?_; refine cw_region ?_; refine wl_val rfl (ex_eql rfl rfl) ?_; refine wl_a ?_; refine wl_nil (nrm_then ?_); refine cw_if rfl (fun hc24 => ?_) (fun hc24 => ?_)
     ·skip
      have h52 := hn.two (by omega); refine cw_region ?_; refine wl_m ?_; refine wl_val rfl (ex_fieldAddr rfl Tryz.fld25_8) ?_; refine wl_val rfl (ex_load1 rfl Tryz.agg23 (cell_nth hB11 rfl)) ?_; refine wl_val rfl (ex_len_slice rfl Tryz.underlying23 rfl) ?_; refine wl_val rfl (ex_sub_i64 rfl rfl (by omega) (by omega)) ?_; refine wl_val rfl (ex_mul_i64 rfl rfl (by omega) (by omega)) ?_; refine wl_val rfl (ex_add_i64 rfl rfl (by omega) (by omega)) ?_; refine wl_a ?_; refine wl_nil (nrm_block (nrm_then ?_)); refine cw_seq ?_; refine cw_region ?_; refine wl_m ?_; refine wl_val rfl (ex_min rfl rfl) ?_; refine wl_a ?_; refine wl_nil (nrm_then ?_); refine cw_ret (body_ret1 rfl rfl ?_); refine ⟨congrArg (Value.int .i64) ?_, hE10⟩; rw [ite_min]
      rw [esz5 (by omega) (by omega), hall]; omega
     ·skip
      refine cw_seq ?_; refine cw_region ?_; refine wl_val rfl (ex_eql rfl rfl) ?_; refine wl_a ?_; refine wl_nil (nrm_then ?_); refine cw_if rfl (fun hc33 => ?_) (fun hc33 => ?_)
      ·skip
       refine cw_region ?_; refine wl_m ?_; refine wl_val rfl (ex_add_i64 rfl rfl (by omega) (by omega)) ?_; refine wl_a ?_; refine wl_nil (nrm_block (nrm_then ?_)); refine cw_seq ?_; refine cw_region ?_; refine wl_m ?_; refine wl_val rfl (ex_min rfl rfl) ?_; refine wl_a ?_; refine wl_nil (nrm_then ?_); refine cw_ret (body_ret1 rfl rfl ?_); refine ⟨congrArg (Value.int .i64) ?_, hE10⟩; rw [ite_min]; exact cap_two (esz7 (by omega)) hall
      ·skip
       refine cw_seq ?_; refine cw_region ?_; refine wl_val rfl (ex_eql rfl rfl) ?_; refine wl_a ?_; refine wl_nil (nrm_then ?_); refine cw_if rfl (fun hc37 => ?_) (fun hc37 => ?_)
       ·skip
        have h6 := hn.rep1 (by omega); have h62 := hn.rep2 (by omega); have h63 := hn.rep3 (by omega); have hmu := mul_bd h6 h62 hs0 hs1; refine cw_seq ?_; refine cw_region ?_; refine wl_val rfl (ex_fieldAddr rfl Tryz.fld25_4) ?_; refine wl_val rfl (ex_load1 rfl Tryz.agg3 (cell_nth hB11 rfl)) ?_; refine wl_val rfl (ex_lss rfl rfl) ?_; refine wl_nil (nrm_then ?_); refine cw_if rfl (fun hc41 => ?_) (fun hc41 => ?_)
        ·skip
         refine cw_region ?_; refine wl_val rfl (ex_fieldAddr rfl Tryz.fld25_3) ?_; refine wl_val rfl (ex_load1 rfl Tryz.agg3 (cell_nth hB11 rfl)) ?_; refine wl_m ?_; refine wl_val rfl (ex_mul_i64 rfl rfl (by omega) (by omega)) ?_; refine wl_m ?_; refine wl_val rfl (ex_add_i64 rfl rfl (by omega) (by omega)) ?_; refine wl_val rfl (ex_add_i64 rfl rfl (by omega) (by omega)) ?_; refine wl_a ?_; refine wl_nil (nrm_block (nrm_then ?_)); refine cw_seq ?_; refine cw_region ?_; refine wl_m ?_; refine wl_val rfl (ex_min rfl rfl) ?_; refine wl_a ?_; refine wl_nil (nrm_then ?_); refine cw_ret (body_ret1 rfl rfl ?_); refine ⟨congrArg (Value.int .i64) ?_, hE10⟩; rw [ite_min]
         rw [esz6a (by omega) h6 (by omega), hall]; exact cap_rep1 h6 (Int.natCast_nonneg _)
        ·skip
         have hmv := mul_bd (show 0 ≤ t.max - t.min by omega) (show t.max - t.min ≤ 1000 by omega) (show 0 ≤ s + 1 by omega) (show s + 1 ≤ 10002 by omega); refine cw_region ?_; refine wl_val rfl (ex_fieldAddr rfl Tryz.fld25_3) ?_; refine wl_val rfl (ex_load1 rfl Tryz.agg3 (cell_nth hB11 rfl)) ?_; refine wl_m ?_; refine wl_val rfl (ex_mul_i64 rfl rfl (by omega) (by omega)) ?_; refine wl_val rfl (ex_fieldAddr rfl Tryz.fld25_4) ?_; refine wl_val rfl (ex_load1 rfl Tryz.agg3 (cell_nth hB11 rfl)) ?_; refine wl_val rfl (ex_fieldAddr rfl Tryz.fld25_3) ?_; refine wl_val rfl (ex_load1 rfl Tryz.agg3 (cell_nth hB11 rfl)) ?_; refine wl_val rfl (ex_sub_i64 rfl rfl (by omega) (by omega)) ?_; refine wl_m ?_; refine wl_val rfl (ex_add_i64 rfl rfl (by omega) (by omega)) ?_; refine wl_val rfl (ex_mul_i64 rfl rfl (by omega) (by omega)) ?_; refine wl_val rfl (ex_add_i64 rfl rfl (by omega) (by omega)) ?_; refine wl_a ?_; refine wl_nil (nrm_block (nrm_then ?_)); refine cw_seq ?_; refine cw_region ?_; refine wl_m ?_; refine wl_val rfl (ex_min rfl rfl) ?_; refine wl_a ?_; refine wl_nil (nrm_then ?_); refine cw_ret (body_ret1 rfl rfl ?_); refine ⟨congrArg (Value.int .i64) ?_, hE10⟩; rw [ite_min]
         rw [esz6b (by omega) h6 (by omega), hall]; exact cap_rep2 h6 (by omega) (Int.natCast_nonneg _)
       ·skip
        refine cw_region ?_; refine wl_a ?_; refine wl_nil (nrm_block (nrm_then ?_)); refine cw_seq ?_; refine cw_region ?_; refine wl_m ?_; refine wl_val rfl (ex_min rfl rfl) ?_; refine wl_a ?_; refine wl_nil (nrm_then ?_); refine cw_ret (body_ret1 rfl rfl ?_); refine ⟨congrArg (Value.int .i64) ?_, hE10⟩; rw [ite_min]; rw [esz0 (by omega)]
   ·skip
    refine cw_region ?_; refine wl_val rfl (ex_eql rfl rfl) ?_; refine wl_a ?_; refine wl_nil (nrm_then ?_); refine cw_if rfl (fun hc21 => ?_) (fun hc21 => ?_)
    ·skip
     refine cw_skip (nrm_block (nrm_then ?_)); refine cw_seq ?_; refine cw_region ?_; refine wl_m ?_; refine wl_val rfl (ex_min rfl rfl) ?_; refine wl_a ?_; refine wl_nil (nrm_then ?_); refine cw_ret (body_ret1 rfl rfl ?_); refine ⟨congrArg (Value.int .i64) ?_, hE10⟩; rw [ite_min]
     first | (rw [esz1 (by omega), hall]; have hk0 : t.kids = [] := hg.node.leaf (by unfold Leafy; omega); rw [hk0]; rfl) | (rw [esz4 (by omega), hall]; omega)
    ·skip
     refine cw_seq ?_; refine cw_region ?_; refine wl_val rfl (ex_eql rfl rfl) ?_; refine wl_a ?_; refine wl_nil (nrm_then ?_); refine cw_if rfl (fun hc24 => ?_) (fun hc24 => ?_)
     ·skip
      have h52 := hn.two (by omega); refine cw_region ?_; refine wl_m ?_; refine wl_val rfl (ex_fieldAddr rfl Tryz.fld25_8) ?_; refine wl_val rfl (ex_load1 rfl Tryz.agg23 (cell_nth hB11 rfl)) ?_; refine wl_val rfl (ex_len_slice rfl Tryz.underlying23 rfl) ?_; refine wl_val rfl (ex_sub_i64 rfl rfl (by omega) (by omega)) ?_; refine wl_val rfl (ex_mul_i64 rfl rfl (by omega) (by omega)) ?_; refine wl_val rfl (ex_add_i64 rfl rfl (by omega) (by omega)) ?_; refine wl_a ?_; refine wl_nil (nrm_block (nrm_then ?_)); refine cw_seq ?_; refine cw_region ?_; refine wl_m ?_; refine wl_val rfl (ex_min rfl rfl) ?_; refine wl_a ?_; refine wl_nil (nrm_then ?_); refine cw_ret (body_ret1 rfl rfl ?_); refine ⟨congrArg (Value.int .i64) ?_, hE10⟩; rw [ite_min]
      rw [esz5 (by omega) (by omega), hall]; omega
     ·skip
      refine cw_seq ?_; refine cw_region ?_; refine wl_val rfl (ex_eql rfl rfl) ?_; refine wl_a ?_; refine wl_nil (nrm_then ?_); refine cw_if rfl (fun hc33 => ?_) (fun hc33 => ?_)
      ·skip
       refine cw_region ?_; refine wl_m ?_; refine wl_val rfl (ex_add_i64 rfl rfl (by omega) (by omega)) ?_; refine wl_a ?_; refine wl_nil (nrm_block (nrm_then ?_)); refine cw_seq ?_; refine cw_region ?_; refine wl_m ?_; refine wl_val rfl (ex_min rfl rfl) ?_; refine wl_a ?_; refine wl_nil (nrm_then ?_); refine cw_ret (body_ret1 rfl rfl ?_); refine ⟨congrArg (Value.int .i64) ?_, hE10⟩; rw [ite_min]; exact cap_two (esz7 (by omega)) hall
      ·skip
       refine cw_seq ?_; refine cw_region ?_; refine wl_val rfl (ex_eql rfl rfl) ?_; refine wl_a ?_; refine wl_nil (nrm_then ?_); refine cw_if rfl (fun hc37 => ?_) (fun hc37 => ?_)
       ·skip
        have h6 := hn.rep1 (by omega); have h62 := hn.rep2 (by omega); have h63 := hn.rep3 (by omega); have hmu := mul_bd h6 h62 hs0 hs1; refine cw_seq ?_; refine cw_region ?_; refine wl_val rfl (ex_fieldAddr rfl Tryz.fld25_4) ?_; refine wl_val rfl (ex_load1 rfl Tryz.agg3 (cell_nth hB11 rfl)) ?_; refine wl_val rfl (ex_lss rfl rfl) ?_; refine wl_nil (nrm_then ?_); refine cw_if rfl (fun hc41 => ?_) (fun hc41 => ?_)
        ·skip
         refine cw_region ?_; refine wl_val rfl (ex_fieldAddr rfl Tryz.fld25_3) ?_; refine wl_val rfl (ex_load1 rfl Tryz.agg3 (cell_nth hB11 rfl)) ?_; refine wl_m ?_; refine wl_val rfl (ex_mul_i64 rfl rfl (by omega) (by omega)) ?_; refine wl_m ?_; refine wl_val rfl (ex_add_i64 rfl rfl (by omega) (by omega)) ?_; refine wl_val rfl (ex_add_i64 rfl rfl (by omega) (by omega)) ?_; refine wl_a ?_; refine wl_nil (nrm_block (nrm_then ?_)); refine cw_seq ?_; refine cw_region ?_; refine wl_m ?_; refine wl_val rfl (ex_min rfl rfl) ?_; refine wl_a ?_; refine wl_nil (nrm_then ?_); refine cw_ret (body_ret1 rfl rfl ?_); refine ⟨congrArg (Value.int .i64) ?_, hE10⟩; rw [ite_min]
         rw [esz6a (by omega) h6 (by omega), hall]; exact cap_rep1 h6 (Int.natCast_nonneg _)
        ·skip
         have hmv := mul_bd (show 0 ≤ t.max - t.min by omega) (show t.max - t.min ≤ 1000 by omega) (show 0 ≤ s + 1 by omega) (show s + 1 ≤ 10002 by omega); refine cw_region ?_; refine wl_val rfl (ex_fieldAddr rfl Tryz.fld25_3) ?_; refine wl_val rfl (ex_load1 rfl Tryz.agg3 (cell_nth hB11 rfl)) ?_; refine wl_m ?_; refine wl_val rfl (ex_mul_i64 rfl rfl (by omega) (by omega)) ?_; refine wl_val rfl (ex_fieldAddr rfl Tryz.fld25_4) ?_; refine wl_val rfl (ex_load1 rfl Tryz.agg3 (cell_nth hB11 rfl)) ?_; refine wl_val rfl (ex_fieldAddr rfl Tryz.fld25_3) ?_; refine wl_val rfl (ex_load1 rfl Tryz.agg3 (cell_nth hB11 rfl)) ?_; refine wl_val rfl (ex_sub_i64 rfl rfl (by omega) (by omega)) ?_; refine wl_m ?_; refine wl_val rfl (ex_add_i64 rfl rfl (by omega) (by omega)) ?_; refine wl_val rfl (ex_mul_i64 rfl rfl (by omega) (by omega)) ?_; refine wl_val rfl (ex_add_i64 rfl rfl (by omega) (by omega)) ?_; refine wl_a ?_; refine wl_nil (nrm_block (nrm_then ?_)); refine cw_seq ?_; refine cw_region ?_; refine wl_m ?_; refine wl_val rfl (ex_min rfl rfl) ?_; refine wl_a ?_; refine wl_nil (nrm_then ?_); refine cw_ret (body_ret1 rfl rfl ?_); refine ⟨congrArg (Value.int .i64) ?_, hE10⟩; rw [ite_min]
         rw [esz6b (by omega) h6 (by omega), hall]; exact cap_rep2 h6 (by omega) (Int.natCast_nonneg _)
       ·skip
        refine cw_region ?_; refine wl_a ?_; refine wl_nil (nrm_block (nrm_then ?_)); refine cw_seq ?_; refine cw_region ?_; refine wl_m ?_; refine wl_val rfl (ex_min rfl rfl) ?_; refine wl_a ?_; refine wl_nil (nrm_then ?_); refine cw_ret (body_ret1 rfl rfl ?_); refine ⟨congrArg (Value.int .i64) ?_, hE10⟩; rw [ite_min]; rw [esz0 (by omega)]
theorem cap_two' {e k : Int} (he : e = k + 2) : min (min k 10001 + 2) 10001 = min e 10001 := by subst he; omega
theorem cap_rep1' {m k : Int} (hm : 0 ≤ m) (hk : 0 ≤ k) : min (m * min k 10001 + (min k 10001 + 2)) 10001 = min (m * k + k + 2) 10001 := by rw [← cap_rep1 hm hk, Int.add_assoc]
set_option maxHeartbeats 4000000 in
theorem rsize_step {n : Nat} (ih : ∀ {X : List Nat} {w : World} {vs : List Value} {t : Rx} (hx : RRx n X w vs t) (hg : Good t), Calls Tryz.prog 85 #[.agg vs.toArray] w (Ret fun v w' => v = .int .i64 (min (t.esz : Int) 10001) ∧ Evo [] w w')) {X : List Nat} {w : World} {vs : List Value} {t : Rx} (hx : RRx (n + 1) X w vs t) (hg : Good t) : Calls Tryz.prog 85 #[.agg vs.toArray] w (Ret fun v w' => v = .int .i64 (min (t.esz : Int) 10001) ∧ Evo [] w w') := by
  have hx0 := hx; obtain ⟨m, ra, rc, ka, kc, hm, rfl, hrg, hk, bl1, bl2, bl3⟩ := hx.get
  obtain rfl : m = n := by omega
  obtain ⟨_, _, hke, hkc, e1⟩ := hk; cases hke; have hn := (nodeP_iff t).1 hg.node; refine calls_of_cw (N := 77) Tryz.func85 rfl rfl rfl ?_; refine cw_seq ?_; refine cw_region ?_; refine wl_boxA rfl rfl fun b1 w2 hB3 hs4 hw5 => ?_; have hG6 := Ge.new (Evo.refl [] w) hs4; have hE7 := (Evo.refl [] w).then hw5; refine wl_a ?_; refine wl_nil (nrm_then ?_); refine cw_seq ?_; refine cw_region ?_; refine wl_a ?_; refine wl_nil (nrm_then ?_); refine cw_seq ?_; refine cw_seq ?_; refine cw_region ?_; refine wl_val rfl (ex_fieldAddr rfl Tryz.fld25_0) ?_; refine wl_val rfl (ex_load1 rfl Tryz.agg3 (cell_nth hB3 rfl)) ?_; refine wl_nil (nrm_then ?_); refine cw_block ?_; refine cw_seq ?_; refine cw_region ?_; refine wl_val rfl (ex_eql rfl rfl) ?_; refine wl_a ?_; refine wl_nil (nrm_then ?_); refine cw_if rfl (fun hc8 => ?_) (fun hc8 => ?_)
  ·skip
   refine cw_skip (nrm_block (nrm_then ?_)); refine cw_seq ?_; refine cw_region ?_; refine wl_m ?_; refine wl_val rfl (ex_min rfl rfl) ?_; refine wl_a ?_; refine wl_nil (nrm_then ?_); refine cw_ret (body_ret1 rfl rfl ?_); refine ⟨congrArg (Value.int .i64) ?_, hE7⟩; rw [ite_min]; rw [esz1 (by omega)]
  ·skip
   refine cw_seq ?_; refine cw_cut (α := Bool) (fun z => [(10, .bool z)]) [(1, _), (2, _), (3, _), (7, _)] (fun z wr => Evo [] w2 wr ∧ (z = true ↔ (t.kind = 4 ∨ t.kind = 5))) ⟨rfl, rfl, rfl, rfl, trivial⟩ ?_ ?_
   ·skip
    refine cw_seq ?_; refine cw_region ?_; refine wl_val rfl (ex_eql rfl rfl) ?_; refine wl_a ?_; refine wl_nil (nrm_then ?_); refine cw_if rfl (fun hc10 => ?_) (fun hc10 => ?_)
    ·skip
     refine cw_skip (nrm_same ?_); refine ⟨(decide (t.kind = 4)), ⟨rfl, trivial⟩, ⟨rfl, rfl, rfl, rfl, trivial⟩, (Evo.refl [] w2), ?_⟩
     simp only [decide_eq_true_eq]; omega
    ·skip
     refine cw_region ?_; refine wl_val rfl (ex_eql rfl rfl) ?_; refine wl_a ?_; refine wl_nil (nrm_same ?_); refine ⟨(decide (t.kind = 5)), ⟨rfl, trivial⟩, ⟨rfl, rfl, rfl, rfl, trivial⟩, (Evo.refl [] w2), ?_⟩
     simp only [decide_eq_true_eq]; omega
   ·skip
    rintro z w8 ⟨hV9, hz⟩; refine nrm_then ?_; show CW _ _ _ _ [(10, _), (1, _), (2, _), (3, _), (7, _)] _; have hE10 := hE7.then hV9; have hB11 := hV9.blk0 hB3; refine cw_ifb rfl (fun hc10 => ?_) (fun hc10 => ?_)
    ·skip
     subst hc10; refine cw_seq ?_; refine cw_seq ?_; refine cw_region ?_; refine wl_a ?_; refine wl_nil (nrm_then ?_); refine cw_block ?_
     refine cw_loop (α := Nat × Int) ((0, 0)) (fun x => [(3, .int .i64 x.2), (4, .int .i64 (x.1 : Nat))]) [(1, _), (2, _)] (fun x wr => Evo [] w8 wr ∧ (x.1 ≤ t.kids.length ∧ x.2 = min (eszs (t.kids.take x.1) : Int) 10001)) (fun x => t.kids.length - x.1) ⟨rfl, rfl, trivial⟩ ⟨rfl, rfl, trivial⟩ ⟨Evo.refl _ _, ⟨Nat.zero_le _, by simp only [List.take_zero]; rfl⟩⟩ ?_
     rintro ⟨j, s⟩ wr12 ⟨hV13, ⟨hj, hs⟩⟩; show CW _ _ _ _ [(3, .int .i64 s), (4, .int .i64 (j : Nat)), (1, _), (2, _)] _
     try dsimp only at hj
     try dsimp only at hs
     have hE14 := hE10.then hV13; have hB15 := hV13.blk0 hB11; refine cw_seq ?_; refine cw_seq ?_; refine cw_region ?_; refine wl_m ?_; refine wl_val rfl (ex_fieldAddr rfl Tryz.fld25_8) ?_; refine wl_val rfl (ex_load1 rfl Tryz.agg23 (cell_nth hB15 rfl)) ?_; refine wl_val rfl (ex_len_slice rfl Tryz.underlying23 rfl) ?_; refine wl_val rfl (ex_lss rfl rfl) ?_; refine wl_nil (nrm_then ?_); refine cw_if rfl (fun hc17 => ?_) (fun hc17 => ?_)
     ·skip
      have hj' : j < t.kids.length := by omega
      obtain ⟨b1, o1, vs1, ha1, hb1, hvl1, hc1, hrk⟩ := e1 j hj'; obtain ⟨m1, ra1, rc1, ka1, kc1, rfl, rfl, -⟩ := id hrk.get; refine cw_skip (nrm_then ?_); refine cw_seq ?_; refine cw_block ?_; refine cw_region ?_; refine wl_m ?_; refine wl_val rfl (ex_fieldAddr rfl Tryz.fld25_8) ?_; refine wl_val rfl (ex_load1 rfl Tryz.agg23 (cell_nth hB15 rfl)) ?_; refine wl_m ?_
      refine wl_val rfl (ex_indexAddr (n := j) (by rw [ha1]; rfl) rfl Tryz.elem23 (by omega)) ?_
      refine wl_val rfl (ex_loadA rfl Tryz.agg25 Tryz.size25 (vs := [_, _, _, _, _, _, _, _, _]) rfl (hc1.evo hE14 (by simp))) ?_; refine wl_call1 (vs := [_]) Tryz.goes85 rfl (ih (RRx.pers _ _ _ _ _ _ (hE14.mono (fun b hb => by cases hb)) hrk) (hg.kid _ (List.getElem_mem hj'))) rfl ?_; rintro _ w16 ⟨rfl, hw17⟩; have hE18 := hE14.then hw17; have hE19 := hV13.then hw17; have hB20 := hw17.blk0 hB15; refine wl_val rfl (ex_add_i64 rfl rfl (by omega) (by omega)) ?_; refine wl_val rfl (ex_min rfl rfl) ?_; refine wl_a ?_; refine wl_nil (nrm_block (nrm_then ?_)); refine cw_region ?_; refine wl_m ?_; refine wl_val rfl (ex_add_i64 rfl rfl (by omega) (by omega)) ?_; refine wl_a ?_; refine wl_nil (nrm_same ?_); refine ⟨(j + 1, if 10001 < s + min (t.kids[j].esz : Int) 10001 then 10001 else s + min (t.kids[j].esz : Int) 10001), ?_, ⟨rfl, rfl, trivial⟩, ⟨rfl, rfl, trivial⟩, hE19, ?_⟩
      · (try dsimp only); omega
      ·skip
       try dsimp only
       exact ⟨by omega, by rw [eszs_take hj', ite_min]; exact step_cap hs rfl⟩
     ·skip
      have hall : s = min (eszs t.kids : Int) 10001 := by rw [hs, List.take_of_length_le (by omega)]
      refine cw_exit (ex_then (ex_then (ex_here (nrm_then ?_)))); refine cw_seq ?_; refine cw_region ?_; refine wl_val rfl (ex_fieldAddr rfl Tryz.fld25_0) ?_; refine wl_val rfl (ex_load1 rfl Tryz.agg3 (cell_nth hB15 rfl)) ?_; refine wl_val rfl (ex_eql rfl rfl) ?_; refine wl_nil (nrm_then ?_); refine cw_if rfl (fun hc31 => ?_) (fun hc31 => ?_)
      ·skip
       have h52 := hn.two (by omega); refine cw_region ?_; refine wl_m ?_; refine wl_val rfl (ex_fieldAddr rfl Tryz.fld25_8) ?_; refine wl_val rfl (ex_load1 rfl Tryz.agg23 (cell_nth hB15 rfl)) ?_; refine wl_val rfl (ex_len_slice rfl Tryz.underlying23 rfl) ?_; refine wl_val rfl (ex_sub_i64 rfl rfl (by omega) (by omega)) ?_; refine wl_val rfl (ex_mul_i64 rfl rfl (by omega) (by omega)) ?_; refine wl_val rfl (ex_add_i64 rfl rfl (by omega) (by omega)) ?_; refine wl_a ?_; refine wl_nil (nrm_block (nrm_then ?_)); refine cw_seq ?_; refine cw_region ?_; refine wl_m ?_; refine wl_val rfl (ex_min rfl rfl) ?_; refine wl_a ?_; refine wl_nil (nrm_then ?_); refine cw_ret (body_ret1 rfl rfl ?_); refine ⟨congrArg (Value.int .i64) ?_, hE14⟩; rw [ite_min]; have := hz.1 rfl
       rw [esz5 (by omega) (by omega), hall]; omega
      ·skip
       refine cw_skip (nrm_block (nrm_then ?_)); refine cw_seq ?_; refine cw_region ?_; refine wl_m ?_; refine wl_val rfl (ex_min rfl rfl) ?_; refine wl_a ?_; refine wl_nil (nrm_then ?_); refine cw_ret (body_ret1 rfl rfl ?_); refine ⟨congrArg (Value.int .i64) ?_, hE14⟩; rw [ite_min]; have := hz.1 rfl
       rw [esz4 (by omega), hall]; omega
    ·skip
     subst hc10; refine cw_seq ?_; refine cw_region ?_; refine wl_val rfl (ex_eql rfl rfl) ?_; refine wl_a ?_; refine wl_nil (nrm_then ?_); refine cw_if rfl (fun hc39 => ?_) (fun hc39 => ?_)
     ·skip
      have hl1 : t.kids.length = 1 := by have h1 := hn.rep4; have h2 := hn.grp; omega
      have hj' : 0 < t.kids.length := by omega
      obtain ⟨b1, o1, vs1, ha1, hb1, hvl1, hc1, hrk⟩ := e1 0 hj'; obtain ⟨m1, ra1, rc1, ka1, kc1, rfl, rfl, -⟩ := id hrk.get; have he1 := eszs_one hl1; refine cw_region ?_; refine wl_val rfl (ex_fieldAddr rfl Tryz.fld25_8) ?_; refine wl_val rfl (ex_load1 rfl Tryz.agg23 (cell_nth hB11 rfl)) ?_
      refine wl_val rfl (ex_indexAddrZ (n := 0) (by rw [ha1]; rfl) rfl rfl Tryz.elem23 (by omega)) ?_
      refine wl_val rfl (ex_loadA rfl Tryz.agg25 Tryz.size25 (vs := [_, _, _, _, _, _, _, _, _]) rfl (hc1.evo hE10 (by simp))) ?_; refine wl_call1 (vs := [_]) Tryz.goes85 rfl (ih (RRx.pers _ _ _ _ _ _ (hE10.mono (fun b hb => by cases hb)) hrk) (hg.kid _ (List.getElem_mem hj'))) rfl ?_; rintro _ w21 ⟨rfl, hw22⟩; have hE23 := hE10.then hw22; have hB24 := hw22.blk0 hB11; refine wl_val rfl (ex_add_i64 rfl rfl (by omega) (by omega)) ?_; refine wl_a ?_; refine wl_nil (nrm_block (nrm_then ?_)); refine cw_seq ?_; refine cw_region ?_; refine wl_m ?_; refine wl_val rfl (ex_min rfl rfl) ?_; refine wl_a ?_; refine wl_nil (nrm_then ?_); refine cw_ret (body_ret1 rfl rfl ?_); refine ⟨congrArg (Value.int .i64) ?_, hE23⟩; rw [ite_min]; exact cap_two' (by rw [esz7 (by omega), ← he1])
     ·skip
      refine cw_seq ?_; refine cw_region ?_; refine wl_val rfl (ex_eql rfl rfl) ?_; refine wl_a ?_; refine wl_nil (nrm_then ?_); refine cw_if rfl (fun hc47 => ?_) (fun hc47 => ?_)
      ·skip
       have hl1 : t.kids.length = 1 := by have h1 := hn.rep4; have h2 := hn.grp; omega
       have hj' : 0 < t.kids.length := by omega
       obtain ⟨b1, o1, vs1, ha1, hb1, hvl1, hc1, hrk⟩ := e1 0 hj'; obtain ⟨m1, ra1, rc1, ka1, kc1, rfl, rfl, -⟩ := id hrk.get; have he1 := eszs_one hl1; obtain ⟨s, hs⟩ : ∃ s, s = min (t.kids[0].esz : Int) 10001 := ⟨_, rfl⟩
       have hs0 : 0 ≤ s := by omega
       have hs1 : s ≤ 10001 := by omega
       have h6 := hn.rep1 (by omega); have h62 := hn.rep2 (by omega); have h63 := hn.rep3 (by omega); have hmu := mul_bd h6 h62 hs0 hs1; rw [hs] at hmu; refine cw_seq ?_; refine cw_region ?_; refine wl_val rfl (ex_fieldAddr rfl Tryz.fld25_8) ?_; refine wl_val rfl (ex_load1 rfl Tryz.agg23 (cell_nth hB11 rfl)) ?_
       refine wl_val rfl (ex_indexAddrZ (n := 0) (by rw [ha1]; rfl) rfl rfl Tryz.elem23 (by omega)) ?_
       refine wl_val rfl (ex_loadA rfl Tryz.agg25 Tryz.size25 (vs := [_, _, _, _, _, _, _, _, _]) rfl (hc1.evo hE10 (by simp))) ?_; refine wl_call1 (vs := [_]) Tryz.goes85 rfl (ih (RRx.pers _ _ _ _ _ _ (hE10.mono (fun b hb => by cases hb)) hrk) (hg.kid _ (List.getElem_mem hj'))) rfl ?_; rintro _ w25 ⟨rfl, hw26⟩; have hE27 := hE10.then hw26; have hB28 := hw26.blk0 hB11; refine wl_a ?_; refine wl_nil (nrm_then ?_); refine cw_seq ?_; refine cw_region ?_; refine wl_val rfl (ex_fieldAddr rfl Tryz.fld25_3) ?_; refine wl_val rfl (ex_load1 rfl Tryz.agg3 (cell_nth hB28 rfl)) ?_; refine wl_m ?_; refine wl_val rfl (ex_mul_i64 rfl rfl (by omega) (by omega)) ?_; refine wl_a ?_; refine wl_nil (nrm_then ?_); refine cw_seq ?_; refine cw_region ?_; refine wl_val rfl (ex_fieldAddr rfl Tryz.fld25_4) ?_; refine wl_val rfl (ex_load1 rfl Tryz.agg3 (cell_nth hB28 rfl)) ?_; refine wl_val rfl (ex_eql rfl rfl) ?_; refine wl_nil (nrm_then ?_); refine cw_if rfl (fun hc60 => ?_) (fun hc60 => ?_)
       ·skip
        refine cw_region ?_; refine wl_m ?_; refine wl_m ?_; refine wl_val rfl (ex_add_i64 rfl rfl (by omega) (by omega)) ?_; refine wl_val rfl (ex_add_i64 rfl rfl (by omega) (by omega)) ?_; refine wl_a ?_; refine wl_nil (nrm_block (nrm_then ?_)); refine cw_seq ?_; refine cw_region ?_; refine wl_m ?_; refine wl_val rfl (ex_min rfl rfl) ?_; refine wl_a ?_; refine wl_nil (nrm_then ?_); refine cw_ret (body_ret1 rfl rfl ?_); refine ⟨congrArg (Value.int .i64) ?_, hE27⟩; rw [ite_min]
        rw [esz6a (by omega) h6 (by omega), he1]; exact cap_rep1' h6 (Int.natCast_nonneg _)
       ·skip
        have hmv := mul_bd (show 0 ≤ t.max - t.min by omega) (show t.max - t.min ≤ 1000 by omega) (show 0 ≤ s + 1 by omega) (show s + 1 ≤ 10002 by omega); rw [hs] at hmv; refine cw_region ?_; refine wl_m ?_; refine wl_val rfl (ex_fieldAddr rfl Tryz.fld25_4) ?_; refine wl_val rfl (ex_load1 rfl Tryz.agg3 (cell_nth hB28 rfl)) ?_; refine wl_val rfl (ex_fieldAddr rfl Tryz.fld25_3) ?_; refine wl_val rfl (ex_load1 rfl Tryz.agg3 (cell_nth hB28 rfl)) ?_; refine wl_val rfl (ex_sub_i64 rfl rfl (by omega) (by omega)) ?_; refine wl_m ?_; refine wl_val rfl (ex_add_i64 rfl rfl (by omega) (by omega)) ?_; refine wl_val rfl (ex_mul_i64 rfl rfl (by omega) (by omega)) ?_; refine wl_val rfl (ex_add_i64 rfl rfl (by omega) (by omega)) ?_; refine wl_a ?_; refine wl_nil (nrm_block (nrm_then ?_)); refine cw_seq ?_; refine cw_region ?_; refine wl_m ?_; refine wl_val rfl (ex_min rfl rfl) ?_; refine wl_a ?_; refine wl_nil (nrm_then ?_); refine cw_ret (body_ret1 rfl rfl ?_); refine ⟨congrArg (Value.int .i64) ?_, hE27⟩; rw [ite_min]
        rw [esz6b (by omega) h6 (by omega), he1]; exact cap_rep2 h6 (by omega) (Int.natCast_nonneg _)
      ·skip
       refine cw_region ?_; refine wl_a ?_; refine wl_nil (nrm_block (nrm_then ?_)); refine cw_seq ?_; refine cw_region ?_; refine wl_m ?_; refine wl_val rfl (ex_min rfl rfl) ?_; refine wl_a ?_; refine wl_nil (nrm_then ?_); refine cw_ret (body_ret1 rfl rfl ?_); refine ⟨congrArg (Value.int .i64) ?_, hE10⟩; rw [ite_min]
       have hnz : ¬ (t.kind = 4 ∨ t.kind = 5) := fun h => by have := hz.2 h; cases this
       rw [esz0 (by omega)]
theorem size_ok : ∀ {n : Nat} {X : List Nat} {w : World} {vs : List Value} {t : Rx} (hx : RRx n X w vs t) (hg : Good t), Calls Tryz.prog 71 #[.agg vs.toArray] w (Ret fun v w' => v = .int .i64 (min (t.esz : Int) 10001) ∧ Evo [] w w')
  | 0, X, w, vs, t, hx, hg => hx.elim
  | n + 1, X, w, vs, t, hx, hg => size_step (n := n) (fun hx hg => size_ok hx hg) hx hg
theorem rsize_ok : ∀ {n : Nat} {X : List Nat} {w : World} {vs : List Value} {t : Rx} (hx : RRx n X w vs t) (hg : Good t), Calls Tryz.prog 85 #[.agg vs.toArray] w (Ret fun v w' => v = .int .i64 (min (t.esz : Int) 10001) ∧ Evo [] w w')
  | 0, X, w, vs, t, hx, hg => hx.elim
  | n + 1, X, w, vs, t, hx, hg => rsize_step (n := n) (fun hx hg => rsize_ok hx hg) hx hg
def SizeIs (t : Rx) (r : Int) : Prop := (t.Ok → r = min ((t.esz : Int) + 1) 10001) ∧ (¬ t.Ok → r = 0)
theorem cap_one (e : Int) : min (min e 10001 + 1) 10001 = min (e + 1) 10001 := by omega
theorem Size_ok {n : Nat} {w : World} {vs : List Value} {t : Rx} (hx : RRx n [] w vs t) : Calls Tryz.prog 34 #[.agg vs.toArray] w (Ret fun v w' => ∃ r, v = .int .i64 r ∧ SizeIs t r ∧ Evo [] w w') := by
  have hx0 := hx; obtain ⟨m, ra, rc, ka, kc, hm, rfl, hrg, hk, bl1, bl2, bl3⟩ := hx.get; refine calls_of_cw (N := 10) Tryz.func34 rfl rfl rfl ?_; refine cw_seq ?_; refine cw_region ?_; refine wl_boxA rfl rfl fun b1 w2 hB3 hs4 hw5 => ?_; have hG6 := Ge.new (Evo.refl [] w) hs4; have hE7 := (Evo.refl [] w).then hw5; refine wl_a ?_; refine wl_nil (nrm_then ?_); refine cw_seq ?_; refine cw_seq ?_; refine cw_region ?_; refine wl_val rfl (ex_loadBlk rfl Tryz.agg25 Tryz.size25 hB3 rfl) ?_; refine wl_call1 (vs := [_]) Tryz.goes38 rfl (valid_ok (RRx.pers _ _ _ _ _ _ hE7 hx0)) rfl ?_; rintro _ w8 ⟨r, rfl, hr, hw9⟩; have hE10 := hE7.then hw9; have hB11 := hw9.blk0 hB3; refine wl_val rfl (ex_notb rfl) ?_; refine wl_nil (nrm_then ?_); refine cw_ifb rfl (fun hc5 => ?_) (fun hc5 => ?_)
  ·skip
   refine cw_seq ?_; refine cw_region ?_; refine wl_a ?_; refine wl_nil (nrm_then ?_); refine cw_ret (ret_then (body_ret1 rfl rfl ?_))
   exact ⟨0, rfl, ⟨fun h => (by rw [hr.2 h] at hc5; cases hc5), fun _ => rfl⟩, hE10⟩
  ·skip
   have hok : t.Ok := hr.1 (by simpa using hc5); refine cw_skip (nrm_then ?_); refine cw_seq ?_; refine cw_region ?_; refine wl_val rfl (ex_loadBlk rfl Tryz.agg25 Tryz.size25 hB11 rfl) ?_; refine wl_call1 (vs := [_]) Tryz.goes71 rfl (size_ok (RRx.pers _ _ _ _ _ _ hE10 hx0) hok.good) rfl ?_; rintro _ w12 ⟨rfl, hw13⟩; have hE14 := hE10.then hw13; have hB15 := hw13.blk0 hB11; refine wl_val rfl (ex_add_i64 rfl rfl (by omega) (by omega)) ?_; refine wl_val rfl (ex_min rfl rfl) ?_; refine wl_a ?_; refine wl_nil (nrm_then ?_); refine cw_ret (body_ret1 rfl rfl ?_)
   exact ⟨_, rfl, ⟨fun _ => by rw [ite_min]; exact cap_one _, fun h => (h hok).elim⟩, hE14⟩
theorem rSize_ok {n : Nat} {w : World} {vs : List Value} {t : Rx} (hx : RRx n [] w vs t) : Calls Tryz.prog 43 #[.agg vs.toArray] w (Ret fun v w' => ∃ r, v = .int .i64 r ∧ SizeIs t r ∧ Evo [] w w') := by
  have hx0 := hx; obtain ⟨m, ra, rc, ka, kc, hm, rfl, hrg, hk, bl1, bl2, bl3⟩ := hx.get; refine calls_of_cw (N := 10) Tryz.func43 rfl rfl rfl ?_; refine cw_seq ?_; refine cw_region ?_; refine wl_boxA rfl rfl fun b1 w2 hB3 hs4 hw5 => ?_; have hG6 := Ge.new (Evo.refl [] w) hs4; have hE7 := (Evo.refl [] w).then hw5; refine wl_a ?_; refine wl_nil (nrm_then ?_); refine cw_seq ?_; refine cw_seq ?_; refine cw_region ?_; refine wl_val rfl (ex_loadBlk rfl Tryz.agg25 Tryz.size25 hB3 rfl) ?_; refine wl_call1 (vs := [_]) Tryz.goes41 rfl (refValid_ok (RRx.pers _ _ _ _ _ _ hE7 hx0)) rfl ?_; rintro _ w8 ⟨r, rfl, hr, hw9⟩; have hE10 := hE7.then hw9; have hB11 := hw9.blk0 hB3; refine wl_val rfl (ex_notb rfl) ?_; refine wl_nil (nrm_then ?_); refine cw_ifb rfl (fun hc5 => ?_) (fun hc5 => ?_)
  ·skip
   refine cw_seq ?_; refine cw_region ?_; refine wl_a ?_; refine wl_nil (nrm_then ?_); refine cw_ret (ret_then (body_ret1 rfl rfl ?_))
   exact ⟨0, rfl, ⟨fun h => (by rw [hr.2 h] at hc5; cases hc5), fun _ => rfl⟩, hE10⟩
  ·skip
   have hok : t.Ok := hr.1 (by simpa using hc5); refine cw_skip (nrm_then ?_); refine cw_seq ?_; refine cw_region ?_; refine wl_val rfl (ex_loadBlk rfl Tryz.agg25 Tryz.size25 hB11 rfl) ?_; refine wl_call1 (vs := [_]) Tryz.goes85 rfl (rsize_ok (RRx.pers _ _ _ _ _ _ hE10 hx0) hok.good) rfl ?_; rintro _ w12 ⟨rfl, hw13⟩; have hE14 := hE10.then hw13; have hB15 := hw13.blk0 hB11; refine wl_val rfl (ex_add_i64 rfl rfl (by omega) (by omega)) ?_; refine wl_val rfl (ex_min rfl rfl) ?_; refine wl_a ?_; refine wl_nil (nrm_then ?_); refine cw_ret (body_ret1 rfl rfl ?_)
   exact ⟨_, rfl, ⟨fun _ => by rw [ite_min]; exact cap_one _, fun h => (h hok).elim⟩, hE14⟩
end Go.Proofs.YtgnpldackjbdjaaGreat
namespace Go.Proofs.YtgnpldackjbdjaaGreat
open Go.Proofs
open Go.W Go.RowKit
attribute [local irreducible] Decidable.decide
set_option linter.unusedSimpArgs false
set_option linter.unusedVariables false
theorem Tryz.build129 : Build Tryz.prog 129 #[(0, 1), (1, 1)] #[.int .i32 0, .int .i32 0] := ⟨_, .agg #[.int .i32 0, .int .i32 0], Tryz.underlying129, by kernel_rfl, rfl, fun w => by kernel_rfl⟩
theorem Tryz.goes34 : Goes Tryz.prog 34 := ⟨_, Tryz.func34, by kernel_rfl, by kernel_rfl⟩
theorem RangesOk.low {l : List (Int × Int)} (h : RangesOk l) : ∀ i (hi : i < l.length), 2 * (i : Int) ≤ l[i].1
  | 0, hi => by have := (h.1 0 hi).1; omega
  | i + 1, hi => by
    have h1 := h.low i (by omega)
    have h2 := h.1 i (by omega)
    have h3 := (h.1 (i + 1) hi).2.2.2 i (by omega) rfl
    omega
theorem RangesOk.len {l : List (Int × Int)} (h : RangesOk l) : l.length ≤ 1048576 := by
  by_cases e : l.length = 0
  · omega
  · have h1 := h.low (l.length - 1) (by omega)
    have h2 := h.1 (l.length - 1) (by omega)
    omega
theorem rows_rr (X : List Nat) (w : World) (a b : Int) : RowsOk 2 RRg X w [[.int .i32 a, .int .i32 b]] [(a, b)] := by
  refine ⟨rfl, fun k hk hk' => ?_⟩
  simp at hk
  subst hk
  exact ⟨rfl, rfl⟩
def RIn : Rel In := fun X w vs c => ∃ vr, vs = [iv c.op, iv c.out, iv c.alt, iv c.arg, vr] ∧ RSl 2 RRg X w vr c.rs ∧ c.rs.length ≤ 1048576
theorem RIn.pers : RIn.Pers := fun _ _ _ _ _ he ⟨v, h1, h2, h3⟩ => ⟨v, h1, RSl.evo RRg.pers he h2, h3⟩
theorem RIn.fresh : RIn.Fresh := fun _ _ _ _ _ hy ⟨v, h1, h2, h3⟩ => ⟨v, h1, RSl.fresh (by decide) RRg.fresh hy h2, h3⟩
def RProg : Rel (List In) := fun X w vs l => ∃ vi g nm, vs = [vi, iv 0, g, nm] ∧ RSl 5 RIn X w vi l ∧ l.length ≤ 10000 ∧ g.oneCell' = true ∧ nm.oneCell' = true
theorem RProg.pers : RProg.Pers := fun _ _ _ _ _ he ⟨v, g, nm, h1, h2, h3⟩ => ⟨v, g, nm, h1, RSl.evo RIn.pers he h2, h3⟩
theorem RProg.fresh : RProg.Fresh := fun _ _ _ _ _ hy ⟨v, g, nm, h1, h2, h3⟩ => ⟨v, g, nm, h1, RSl.fresh (by decide) RIn.fresh hy h2, h3⟩
theorem flat_rows (es : List Iv) : (es.map Iv.cells).flatten = flat es := by unfold flat; rw [List.flatMap_def]
theorem CdAt.prog {w : World} {cb : Nat} {es : List Iv} {a : Option Addr} {c : Nat} {ob : Option Nat} {Z : List Nat} (h : CdAt w cb es a c ob Z) (hn : ∀ e, e ∈ es → e.1.rs.length ≤ 1048576) : RSl 5 RIn [] w (.slice a es.length c) (es.map (·.1)) := by
  have h1 := h.own
  rw [← flat_rows] at h1
  refine RSl.ofOwn (rows := es.map Iv.cells) h1 ⟨by simp, fun k hk hk' => ?_⟩ (by simp) (fun _ _ => by simp)
  have hk2 : k < es.length := by simpa using hk
  simp only [List.getElem_map]
  exact ⟨rfl, _, rfl, rrg_step (h.rs _ (List.getElem_mem hk2)) ((Evo.refl [] w).any _) (fun y hy => by cases hy), hn _ (List.getElem_mem hk2)⟩
theorem CdAt.new {w : World} {cb : Nat} {Z : List Nat} (h : w.heap[cb]? = some (.cells #[.slice none 0 0] 162 (0, 0))) : CdAt w cb [] none 0 none Z := ⟨h, OwnS.nil _ _ _, fun g hg => (by cases hg), fun e he => (by cases he)⟩
theorem SizeIs.zero {t : Rx} {r : Int} (h : SizeIs t r) (h0 : r = 0) : ¬ t.Ok := fun hk => by have := h.1 hk; omega
end Go.Proofs.YtgnpldackjbdjaaGreat
namespace Go.Proofs.YtgnpldackjbdjaaGreat
open Go.Proofs
open Go.W Go.RowKit
attribute [local irreducible] Decidable.decide
set_option linter.unusedSimpArgs false
set_option linter.unusedVariables false
theorem Tryz.goes137 : Goes Tryz.prog 137 := ⟨_, Tryz.func137, by kernel_rfl, by kernel_rfl⟩
theorem Tryz.slice135 : sliceB Tryz.prog 135 = some (21, 1) := by kernel_rfl
abbrev i32s (l : List Int) : List Value := l.map fun c => Value.int .i32 c
theorem offs_ge {s : ByteArray} {k : Nat} (h : ∀ j, j < k → 0 < (nextR s (offs s j)).2) : k ≤ offs s k := by
  induction k with
  | zero => exact Nat.zero_le _
  | succ k ih =>
    have h1 := ih (fun j hj => h j (by omega))
    have h2 := h k (by omega)
    rw [offs]; omega
theorem utf_uniq {s : ByteArray} {K N : Nat} (hw : ∀ j, j < K → 0 < (nextR s (offs s j)).2) (he : offs s K = s.size ∨ (nextR s (offs s K)).2 = 0) (hU : Utf s N) : K = N := by
  rcases Nat.lt_trichotomy K N with h | h | h
  · have h1 := hU.2 K h
    have h2 := offs_lt hU.2 h (Nat.le_refl _)
    rw [hU.1] at h2
    omega
  · exact h
  · have h1 := hw N h
    rw [hU.1, next_out (Nat.le_refl _)] at h1
    cases h1
end Go.Proofs.YtgnpldackjbdjaaGreat
namespace Go.Proofs.YtgnpldackjbdjaaGreat
open Go.W Go.RowKit
set_option linter.unusedVariables false
set_option linter.unusedSimpArgs false
open Classical in
noncomputable def tf (p : Prop) : Bool := decide p
theorem tf_iff {p : Prop} : tf p = true ↔ p := by unfold tf; simp
theorem tf_no {p : Prop} : tf p = false ↔ ¬ p := by unfold tf; simp
theorem tf_congr {p q : Prop} (h : p ↔ q) : tf p = tf q := by rw [Bool.eq_iff_iff, tf_iff, tf_iff]; exact h
instance (c : Int) : Decidable (wordI c) := by unfold wordI; infer_instance
end Go.Proofs.YtgnpldackjbdjaaGreat
namespace Go.Proofs.YtgnpldackjbdjaaGreat
open Go.Proofs
open Go.W Go.RowKit
attribute [local irreducible] Decidable.decide
set_option linter.unusedSimpArgs false
set_option linter.unusedVariables false
theorem Tryz.build25 : Build Tryz.prog 25 #[(0, 1), (1, 1), (2, 1), (3, 1), (4, 1), (5, 1), (6, 1), (7, 1), (8, 1)] #[.int .i64 0, .int .i32 0, .slice none 0 0, .int .i64 0, .int .i64 0, .bool false, .int .i64 0, .string ByteArray.empty, .slice none 0 0] := ⟨_, .agg #[.int .i64 0, .int .i32 0, .slice none 0 0, .int .i64 0, .int .i64 0, .bool false, .int .i64 0, .string ByteArray.empty, .slice none 0 0], Tryz.underlying25, by kernel_rfl, rfl, fun w => by kernel_rfl⟩
theorem Tryz.goes40 : Goes Tryz.prog 40 := ⟨_, Tryz.func40, by kernel_rfl, by kernel_rfl⟩
theorem Tryz.zero3 : zeroB Tryz.prog 3 = some #[.int .i64 0] := by kernel_rfl
def litX (r : Int) : Rx := .mk 2 r [] 0 0 false 0 (ByteArray.mk #[]) []
abbrev litV (r : Int) : List Value := [iv 2, .int .i32 r, .slice none 0 0, iv 0, iv 0, .bool false, iv 0, .string (ByteArray.mk #[]), .slice none 0 0]
theorem litX_rx (r : Int) (X : List Nat) (w : World) : RRx 1 X w (litV r) (litX r) := ⟨_, _, rfl, rnil0, rnil0, Nat.zero_le _, Nat.zero_le _, Nat.zero_le _⟩
theorem litX_ok {r : Int} (h0 : 0 ≤ r) (h1 : r ≤ 1114111) : (litX r).Ok := by
  have hp : NodeP (litX r) := ⟨by show (1 : Int) ≤ 2; decide, by show (2 : Int) ≤ 13; decide, .inl rfl, .inr rfl, .inr ⟨rfl, rfl, rfl⟩, .inr ⟨rfl, rfl⟩, fun _ => ⟨h0, h1⟩, fun h => absurd (show (2 : Int) = 3 from h) (by decide), fun h => absurd (show (2 : Int) = 4 ∨ (2 : Int) = 5 from h) (by decide), fun h => absurd (show (2 : Int) = 6 from h) (by decide), fun h => absurd (show (2 : Int) = 7 from h) (by decide), fun _ => rfl⟩
  refine ⟨(1, []), ?_⟩
  rw [fine_yes (x := litX r) (b := 0) (st := (0, [])) ⟨by decide, by show (if (2 : Int) = 7 then _ else _) ≤ 250; decide, hp, fun h => absurd (show (2 : Int) = 7 from h) (by decide)⟩]
  show fineKids [] _ _ _ = _
  rw [fineKids]
  rfl
theorem lit_ok {w : World} (r : Int) : Calls Tryz.prog 9 #[.int .i32 r] w (Ret fun v w' => v = .agg (litV r).toArray ∧ Evo [] w w') := by
  refine calls_of_cw (N := 5) Tryz.func9 rfl rfl rfl ?_; refine cw_seq ?_; refine cw_region ?_; refine wl_alloc rfl Tryz.zero25 fun b1 w2 hB3 hs4 hw5 => ?_; have hG6 := Ge.new (Evo.refl [] w) hs4; have hE7 := (Evo.refl [] w).then hw5; refine wl_nil (nrm_then ?_); refine cw_seq ?_; refine cw_region ?_; refine wl_m ?_; refine wl_val rfl (ex_build (vs := [(0, _), (1, _)]) Tryz.build25 rfl (cells := [_, _, _, _, _, _, _, _, _]) rfl) ?_; refine wl_storeBlk rfl rfl Tryz.size25 hB3 rfl rfl ⟨by first | rfl | assumption, by first | rfl | assumption, by first | rfl | assumption, by first | rfl | assumption, by first | rfl | assumption, by first | rfl | assumption, by first | rfl | assumption, by first | rfl | assumption, by first | rfl | assumption, trivial⟩ fun w8 hB9 hw10 => ?_; have hE11 := hE7.step hw10 hG6.mem1; refine wl_nil (nrm_then ?_); refine cw_ret (body_retC1 rfl (ResOk.cellA rfl Tryz.agg25 Tryz.size25 hB9 rfl) ?_); exact ⟨rfl, hE11⟩
set_option maxHeartbeats 4000000 in
theorem counted_step {n : Nat} (ih : ∀ {w : World} {bc : Nat} {k : Int} {vs : List Value} {t : Rx} (hB : w.heap[bc]? = some (.cells #[iv k] 3 (0, 0))) (h0 : 0 ≤ k) (h1 : k ≤ 200000) (hx : RRx n [bc] w vs t), Calls Tryz.prog 40 #[.agg vs.toArray, .pointer (some ⟨bc, 0, none⟩)] w (Ret fun v w' => ∃ bv k', v = .bool bv ∧ 0 ≤ k' ∧ k' ≤ 200001 ∧ w'.heap[bc]? = some (.cells #[iv k'] 3 (0, 0)) ∧ Evo [bc] w w')) {w : World} {bc : Nat} {k : Int} {vs : List Value} {t : Rx} (hB : w.heap[bc]? = some (.cells #[iv k] 3 (0, 0))) (h0 : 0 ≤ k) (h1 : k ≤ 200000) (hx : RRx (n + 1) [bc] w vs t) : Calls Tryz.prog 40 #[.agg vs.toArray, .pointer (some ⟨bc, 0, none⟩)] w (Ret fun v w' => ∃ bv k', v = .bool bv ∧ 0 ≤ k' ∧ k' ≤ 200001 ∧ w'.heap[bc]? = some (.cells #[iv k'] 3 (0, 0)) ∧ Evo [bc] w w') := by
  have hx0 := hx; obtain ⟨m, xa, xc, ka, kc, hm, rfl, hrg, hk, bl1, bl2, bl3⟩ := hx.get
  obtain rfl : m = n := by omega
  obtain ⟨_, _, hke, hkc, e1⟩ := hk; cases hke; refine calls_of_cw (N := 41) Tryz.func40 rfl rfl rfl ?_; refine cw_seq ?_; refine cw_region ?_; refine wl_boxA rfl rfl fun b2 w1 hB2 hs3 hw4 => ?_; have hsz_b2 := hs3; have hA5 := Apart.new (Lt.blk hB) hs3; have hG6 := Ge.new (Evo.refl [bc] w) hs3; have hE7 := (Evo.refl [bc] w).then hw4; have hB8 := hw4.blk0 hB; have hA2c := hA5.symm; refine wl_a ?_; refine wl_nil (nrm_then ?_); refine cw_seq ?_; refine cw_region ?_; refine wl_m ?_; refine wl_val rfl (ex_nilCheck rfl) ?_; refine wl_val rfl (ex_load1 rfl Tryz.agg3 (cell_nth hB8 rfl)) ?_; refine wl_val rfl (ex_add_i64 rfl rfl (by omega) (by omega)) ?_; refine wl_val rfl (ex_nilCheck rfl) ?_; refine wl_store1 rfl rfl (by first | rfl | assumption) Tryz.size3 hB8 rfl fun w9 hB10 hw11 => ?_; have hE12 := hE7.step hw11 (fun y hy => .inl hy); have hB13 := hw11.blk hB2 hA5.symm.nmem1
  try simp only [List.setIfInBounds_toArray, List.set_cons_zero, List.set_cons_succ, Nat.reduceAdd, Nat.zero_add, Nat.add_zero] at hB10
  refine wl_nil (nrm_then ?_); refine cw_seq ?_; refine cw_seq ?_; refine cw_region ?_; refine wl_val rfl (ex_fieldAddr rfl Tryz.fld25_2) ?_; refine wl_val rfl (ex_load1 rfl Tryz.agg22 (cell_nth hB13 rfl)) ?_; refine wl_val rfl (ex_len_slice rfl Tryz.underlying22 rfl) ?_; refine wl_val rfl (ex_gtr rfl rfl) ?_; refine wl_nil (nrm_then ?_); refine cw_if rfl (fun hc14 => ?_) (fun hc14 => ?_)
  ·skip
   refine cw_region ?_; refine wl_m ?_; refine wl_val rfl (ex_nilCheck rfl) ?_; refine wl_store1 rfl rfl (by first | rfl | assumption) Tryz.size3 hB10 rfl fun w14 hB15 hw16 => ?_; have hE17 := hE12.step hw16 (fun y hy => .inl hy); have hB18 := hw16.blk hB13 hA5.symm.nmem1
   try simp only [List.setIfInBounds_toArray, List.set_cons_zero, List.set_cons_succ, Nat.reduceAdd, Nat.zero_add, Nat.add_zero] at hB15
   refine wl_nil (nrm_then ?_); refine cw_seq ?_; refine cw_seq ?_; refine cw_region ?_; refine wl_a ?_; refine wl_nil (nrm_then ?_); refine cw_block ?_; refine cw_loop (α := Nat × Int) ((0, _)) (fun x => [(5, .int .i64 (x.1 : Nat))]) [(1, _), (2, _), (4, _)] (fun x wr => Evo [bc] w wr ∧ (x.1 ≤ t.kids.length ∧ 0 ≤ x.2 ∧ x.2 ≤ 200001 ∧ wr.heap[bc]? = some (.cells #[iv x.2] 3 (0, 0)) ∧ wr.heap[b2]? = some (.cells #[iv t.kind, .int .i32 t.r, .slice xa t.ranges.length xc, iv t.min, iv t.max, .bool t.lazy, iv t.cap, .string t.name, .slice ka t.kids.length kc] 25 (0, 0)))) (fun x => t.kids.length - x.1) ⟨rfl, trivial⟩ ⟨rfl, rfl, rfl, trivial⟩ ⟨hE17, ⟨Nat.zero_le _, by omega, by omega, hB15, hB18⟩⟩ ?_; rintro ⟨j, q⟩ wr19 ⟨hV20, ⟨hj, hq0, hq1, hBC, hb2⟩⟩; show CW _ _ _ _ [(5, .int .i64 (j : Nat)), (1, _), (2, _), (4, _)] _
   try dsimp only at hj
   try dsimp only at hq0
   try dsimp only at hq1
   try dsimp only at hBC
   try dsimp only at hb2
   refine cw_seq ?_; refine cw_seq ?_; refine cw_region ?_; refine wl_m ?_; refine wl_val rfl (ex_fieldAddr rfl Tryz.fld25_8) ?_; refine wl_val rfl (ex_load1 rfl Tryz.agg23 (cell_nth hb2 rfl)) ?_; refine wl_val rfl (ex_len_slice rfl Tryz.underlying23 rfl) ?_; refine wl_val rfl (ex_lss rfl rfl) ?_; refine wl_m ?_; refine wl_split (t := 22) rfl (fun hs22 => ?_) (fun hs22 => ?_)
   ·skip
    refine wl_g ?_; refine wl_m ?_; refine wl_g ?_; refine wl_val rfl (ex_nilCheck rfl) ?_; refine wl_g ?_; refine wl_val rfl (ex_load1 rfl Tryz.agg3 (cell_nth hBC rfl)) ?_; refine wl_g ?_; refine wl_val rfl (ex_leq rfl rfl) ?_; refine wl_pt ?_; refine wl_nil (nrm_then ?_); refine cw_if rfl (fun hc27 => ?_) (fun hc27 => ?_)
    ·skip
     have hj' : j < t.kids.length := by omega
     obtain ⟨b1, o1, vs1, ha1, hb1, hvl1, hc1, hrk⟩ := e1 j hj'; obtain ⟨m1, ra1, rc1, ka1, kc1, rfl, rfl, -⟩ := id hrk.get; refine cw_skip (nrm_then ?_); refine cw_seq ?_; refine cw_block ?_; refine cw_region ?_; refine wl_val rfl (ex_fieldAddr rfl Tryz.fld25_8) ?_; refine wl_val rfl (ex_load1 rfl Tryz.agg23 (cell_nth hb2 rfl)) ?_; refine wl_m ?_
     refine wl_val rfl (ex_indexAddr (n := j) (by rw [ha1]; rfl) rfl Tryz.elem23 (by omega)) ?_
     refine wl_val rfl (ex_loadA rfl Tryz.agg25 Tryz.size25 (vs := [_, _, _, _, _, _, _, _, _]) rfl (hc1.evo hV20 hb1)) ?_; refine wl_m ?_; refine wl_call1 (vs := [_, _]) Tryz.goes40 rfl (ih hBC (by omega) (by omega) (RRx.pers _ _ _ _ _ _ hV20 hrk)) rfl ?_; rintro _ w21 ⟨bv2, k2, rfl, hk20, hk21, hBk, hw22⟩; have hE23 := hV20.step hw22 (fun y hy => .inl hy); have hB24 := hw22.blk hb2 (hA2c.nmem1); refine wl_nil (nrm_block (nrm_then ?_)); refine cw_region ?_; refine wl_m ?_; refine wl_val rfl (ex_add_i64 rfl rfl (by omega) (by omega)) ?_; refine wl_a ?_; refine wl_nil (nrm_same ?_); refine ⟨(j + 1, k2), ?_, ⟨rfl, trivial⟩, ⟨rfl, rfl, rfl, trivial⟩, hE23, ?_⟩
     · (try dsimp only); omega
     ·skip
      try dsimp only
      exact ⟨by omega, hk20, hk21, hBk, hB24⟩
    ·skip
     refine cw_exit (ex_then (ex_then (ex_here (nrm_then ?_)))); refine cw_seq ?_; refine cw_region ?_; refine wl_m ?_; refine wl_val rfl (ex_nilCheck rfl) ?_; refine wl_val rfl (ex_load1 rfl Tryz.agg3 (cell_nth hBC rfl)) ?_; refine wl_val rfl (ex_leq rfl rfl) ?_; refine wl_a ?_; refine wl_nil (nrm_then ?_); refine cw_ret (body_ret1 rfl rfl ?_); exact ⟨_, q, rfl, hq0, hq1, hBC, hV20⟩
   ·skip
    refine wl_n ?_; refine wl_n ?_; refine wl_n ?_; refine wl_n ?_; refine wl_pf ?_; refine wl_nil (nrm_then ?_); refine cw_false rfl ?_; refine cw_exit (ex_then (ex_then (ex_here (nrm_then ?_)))); refine cw_seq ?_; refine cw_region ?_; refine wl_m ?_; refine wl_val rfl (ex_nilCheck rfl) ?_; refine wl_val rfl (ex_load1 rfl Tryz.agg3 (cell_nth hBC rfl)) ?_; refine wl_val rfl (ex_leq rfl rfl) ?_; refine wl_a ?_; refine wl_nil (nrm_then ?_); refine cw_ret (body_ret1 rfl rfl ?_); exact ⟨_, q, rfl, hq0, hq1, hBC, hV20⟩
  ·skip
   refine cw_skip (nrm_then ?_); refine cw_seq ?_; refine cw_seq ?_; refine cw_region ?_; refine wl_a ?_; refine wl_nil (nrm_then ?_); refine cw_block ?_; refine cw_loop (α := Nat × Int) ((0, _)) (fun x => [(5, .int .i64 (x.1 : Nat))]) [(1, _), (2, _), (4, _)] (fun x wr => Evo [bc] w wr ∧ (x.1 ≤ t.kids.length ∧ 0 ≤ x.2 ∧ x.2 ≤ 200001 ∧ wr.heap[bc]? = some (.cells #[iv x.2] 3 (0, 0)) ∧ wr.heap[b2]? = some (.cells #[iv t.kind, .int .i32 t.r, .slice xa t.ranges.length xc, iv t.min, iv t.max, .bool t.lazy, iv t.cap, .string t.name, .slice ka t.kids.length kc] 25 (0, 0)))) (fun x => t.kids.length - x.1) ⟨rfl, trivial⟩ ⟨rfl, rfl, rfl, trivial⟩ ⟨hE12, ⟨Nat.zero_le _, by omega, by omega, hB10, hB13⟩⟩ ?_; rintro ⟨j, q⟩ wr25 ⟨hV26, ⟨hj, hq0, hq1, hBC, hb2⟩⟩; show CW _ _ _ _ [(5, .int .i64 (j : Nat)), (1, _), (2, _), (4, _)] _
   try dsimp only at hj
   try dsimp only at hq0
   try dsimp only at hq1
   try dsimp only at hBC
   try dsimp only at hb2
   refine cw_seq ?_; refine cw_seq ?_; refine cw_region ?_; refine wl_m ?_; refine wl_val rfl (ex_fieldAddr rfl Tryz.fld25_8) ?_; refine wl_val rfl (ex_load1 rfl Tryz.agg23 (cell_nth hb2 rfl)) ?_; refine wl_val rfl (ex_len_slice rfl Tryz.underlying23 rfl) ?_; refine wl_val rfl (ex_lss rfl rfl) ?_; refine wl_m ?_; refine wl_split (t := 22) rfl (fun hs22 => ?_) (fun hs22 => ?_)
   ·skip
    refine wl_g ?_; refine wl_m ?_; refine wl_g ?_; refine wl_val rfl (ex_nilCheck rfl) ?_; refine wl_g ?_; refine wl_val rfl (ex_load1 rfl Tryz.agg3 (cell_nth hBC rfl)) ?_; refine wl_g ?_; refine wl_val rfl (ex_leq rfl rfl) ?_; refine wl_pt ?_; refine wl_nil (nrm_then ?_); refine cw_if rfl (fun hc27 => ?_) (fun hc27 => ?_)
    ·skip
     have hj' : j < t.kids.length := by omega
     obtain ⟨b1, o1, vs1, ha1, hb1, hvl1, hc1, hrk⟩ := e1 j hj'; obtain ⟨m1, ra1, rc1, ka1, kc1, rfl, rfl, -⟩ := id hrk.get; refine cw_skip (nrm_then ?_); refine cw_seq ?_; refine cw_block ?_; refine cw_region ?_; refine wl_val rfl (ex_fieldAddr rfl Tryz.fld25_8) ?_; refine wl_val rfl (ex_load1 rfl Tryz.agg23 (cell_nth hb2 rfl)) ?_; refine wl_m ?_
     refine wl_val rfl (ex_indexAddr (n := j) (by rw [ha1]; rfl) rfl Tryz.elem23 (by omega)) ?_
     refine wl_val rfl (ex_loadA rfl Tryz.agg25 Tryz.size25 (vs := [_, _, _, _, _, _, _, _, _]) rfl (hc1.evo hV26 hb1)) ?_; refine wl_m ?_; refine wl_call1 (vs := [_, _]) Tryz.goes40 rfl (ih hBC (by omega) (by omega) (RRx.pers _ _ _ _ _ _ hV26 hrk)) rfl ?_; rintro _ w27 ⟨bv2, k2, rfl, hk20, hk21, hBk, hw28⟩; have hE29 := hV26.step hw28 (fun y hy => .inl hy); have hB30 := hw28.blk hb2 (hA2c.nmem1); refine wl_nil (nrm_block (nrm_then ?_)); refine cw_region ?_; refine wl_m ?_; refine wl_val rfl (ex_add_i64 rfl rfl (by omega) (by omega)) ?_; refine wl_a ?_; refine wl_nil (nrm_same ?_); refine ⟨(j + 1, k2), ?_, ⟨rfl, trivial⟩, ⟨rfl, rfl, rfl, trivial⟩, hE29, ?_⟩
     · (try dsimp only); omega
     ·skip
      try dsimp only
      exact ⟨by omega, hk20, hk21, hBk, hB30⟩
    ·skip
     refine cw_exit (ex_then (ex_then (ex_here (nrm_then ?_)))); refine cw_seq ?_; refine cw_region ?_; refine wl_m ?_; refine wl_val rfl (ex_nilCheck rfl) ?_; refine wl_val rfl (ex_load1 rfl Tryz.agg3 (cell_nth hBC rfl)) ?_; refine wl_val rfl (ex_leq rfl rfl) ?_; refine wl_a ?_; refine wl_nil (nrm_then ?_); refine cw_ret (body_ret1 rfl rfl ?_); exact ⟨_, q, rfl, hq0, hq1, hBC, hV26⟩
   ·skip
    refine wl_n ?_; refine wl_n ?_; refine wl_n ?_; refine wl_n ?_; refine wl_pf ?_; refine wl_nil (nrm_then ?_); refine cw_false rfl ?_; refine cw_exit (ex_then (ex_then (ex_here (nrm_then ?_)))); refine cw_seq ?_; refine cw_region ?_; refine wl_m ?_; refine wl_val rfl (ex_nilCheck rfl) ?_; refine wl_val rfl (ex_load1 rfl Tryz.agg3 (cell_nth hBC rfl)) ?_; refine wl_val rfl (ex_leq rfl rfl) ?_; refine wl_a ?_; refine wl_nil (nrm_then ?_); refine cw_ret (body_ret1 rfl rfl ?_); exact ⟨_, q, rfl, hq0, hq1, hBC, hV26⟩
theorem counted_ok : ∀ {n : Nat} {w : World} {bc : Nat} {k : Int} {vs : List Value} {t : Rx} (hB : w.heap[bc]? = some (.cells #[iv k] 3 (0, 0))) (h0 : 0 ≤ k) (h1 : k ≤ 200000) (hx : RRx n [bc] w vs t), Calls Tryz.prog 40 #[.agg vs.toArray, .pointer (some ⟨bc, 0, none⟩)] w (Ret fun v w' => ∃ bv k', v = .bool bv ∧ 0 ≤ k' ∧ k' ≤ 200001 ∧ w'.heap[bc]? = some (.cells #[iv k'] 3 (0, 0)) ∧ Evo [bc] w w')
  | 0, w, bc, k, vs, t, hB, h0, h1, hx => hx.elim
  | n + 1, w, bc, k, vs, t, hB, h0, h1, hx => counted_step (n := n) (fun hB h0 h1 hx => counted_ok hB h0 h1 hx) hB h0 h1 hx
theorem wide_ok {n : Nat} {w : World} {vs : List Value} {t : Rx} (hx : RRx n [] w vs t) : Calls Tryz.prog 13 #[.agg vs.toArray] w (Ret fun v w' => ∃ b, v = .bool b ∧ Evo [] w w') := by
  have hx0 := hx; obtain ⟨m, xa, xc, ka, kc, hm, rfl, hrg, hk, bl1, bl2, bl3⟩ := hx.get; refine calls_of_cw (N := 7) Tryz.func13 rfl rfl rfl ?_; refine cw_seq ?_; refine cw_region ?_; refine wl_boxA rfl rfl fun b1 w1 hB2 hs3 hw4 => ?_; have hsz_b1 := hs3; have hG5 := Ge.new (Evo.refl [] w) hs3; have hE6 := (Evo.refl [] w).then hw4; refine wl_a ?_; refine wl_nil (nrm_then ?_); refine cw_seq ?_; refine cw_region ?_; refine wl_alloc rfl Tryz.zero3 fun bc w7 hB8 hs9 hw10 => ?_; have hsz_bc := hs9; have hA11 := Apart.new (Lt.blk hB2) hs9; have hG12 := Ge.new hE6 hs9; have hE13 := hE6.then hw10; have hB14 := hw10.blk0 hB2; refine wl_store1 rfl rfl (by first | rfl | assumption) Tryz.size3 hB8 rfl fun w15 hB16 hw17 => ?_; have hE18 := hE13.step hw17 hG12.mem1; have hB19 := hw17.blk hB14 hA11.nmem1
  try simp only [List.setIfInBounds_toArray, List.set_cons_zero, List.set_cons_succ, Nat.reduceAdd, Nat.zero_add, Nat.add_zero] at hB16
  refine wl_nil (nrm_then ?_); refine cw_seq ?_; refine cw_region ?_; refine wl_val rfl (ex_loadBlk rfl Tryz.agg25 Tryz.size25 hB19 rfl) ?_; refine wl_call1 (vs := [_, _]) Tryz.goes40 rfl (counted_ok hB16 (by decide) (by decide) (RRx.step hx0 hE18 hG12.mem1 (fun b hb => by cases hb))) rfl ?_; rintro _ w20 ⟨bv, k', rfl, -, -, -, hw21⟩; have hE22 := hE18.step hw21 (hG12.mem1); refine wl_val rfl (ex_notb rfl) ?_; refine wl_a ?_; refine wl_nil (nrm_then ?_); refine cw_ret (body_ret1 rfl rfl ?_); exact ⟨_, rfl, hE22⟩
end Go.Proofs.YtgnpldackjbdjaaGreat
namespace Go.Proofs.YtgnpldackjbdjaaGreat
open Go.Proofs
open Go.W Go.RowKit
attribute [local irreducible] Decidable.decide
set_option linter.unusedSimpArgs false
set_option linter.unusedVariables false
theorem Tryz.app83_83 : appB Tryz.prog 83 83 = some (5, 1, 1) := by kernel_rfl
theorem Tryz.elem135 : elemB Tryz.prog 135 = some 1 := by kernel_rfl
theorem Tryz.goes125 : Goes Tryz.prog 125 := ⟨_, Tryz.func125, by kernel_rfl, by kernel_rfl⟩
theorem Tryz.goes126 : Goes Tryz.prog 126 := ⟨_, Tryz.func126, by kernel_rfl, by kernel_rfl⟩
theorem Tryz.goes160 : Goes Tryz.prog 160 := ⟨_, Tryz.func160, by kernel_rfl, by kernel_rfl⟩
theorem Tryz.make83 : makeB Tryz.prog 83 = some (5, 1, 1, #[.int .u8 0]) := by kernel_rfl
abbrev u8s (l : List Nat) : List Value := l.map fun c => Value.int .u8 (c : Nat)
section
variable {P : Program} {σ : Env} {w : World} {dst : Option Nat} {T : TypeId} {pos : String} {after : Array Edge} {g : Option (Nat × Bool)}
theorem ofInt32 {m : Nat} (h : m < 2147483648) : (BitVec.ofInt 32 (m : Int)).toNat = m := by
  rw [BitVec.ofInt_natCast, BitVec.toNat_ofNat, Nat.mod_eq_of_lt (by omega)]
theorem ex_low6 {x y : Operand} {t t' : TypeId} {m : Nat} (hx : σ.ev x = some (.int .i32 (m : Nat))) (hy : σ.ev y = some (.int .i32 63)) (h1 : m < 2147483648) :
    Ex P σ ⟨dst, .binOp .and t x y t', T, pos, after, g⟩ w (.int .i32 ((m % 64 : Nat) : Int)) w := fun ρ h => by
  have e1 : (BitVec.ofInt IntKind.i32.bits (m : Int)).toNat = m := ofInt32 h1
  have e2 : (BitVec.ofInt IntKind.i32.bits (63 : Int)).toNat = 63 := by decide
  have e3 : m &&& 63 = m % 64 := Nat.and_two_pow_sub_one_eq_mod m 6
  have hr : IntKind.i32.wrap (((m % 64 : Nat)) : Int) = ((m % 64 : Nat) : Int) := wrap_of (by have := Nat.mod_lt m (show 0 < 64 by decide); simp [IntKind.min, IntKind.signed, IntKind.bits]; omega) (by have := Nat.mod_lt m (show 0 < 64 by decide); simp [IntKind.max, IntKind.signed, IntKind.bits]; omega)
  simp only [execOp, h x _ hx, h y _ hy]
  simp only [eqGuard, Go.binOp, Op.intBits, Sem.run_bind, Sem.run_pure, Result.andThen_ok, BitVec.toNat_and, e1, e2, e3, hr]
  simp
theorem ex_orB {x y : Operand} {t t' : TypeId} {m n : Nat} {x' z : Int} (r : Nat) (hx : σ.ev x = some (.int .u8 x')) (hy : σ.ev y = some (.int .u8 z)) (hm : x' = ((m : Nat) : Int)) (hz : z = ((n : Nat) : Int)) (h1 : m < 256) (h2 : n < 256) (hr : m ||| n = r) :
    Ex P σ ⟨dst, .binOp .or t x y t', T, pos, after, g⟩ w (.int .u8 ((r : Nat) : Int)) w := by
  subst hr
  exact ex_orN hx hy hm hz rfl h1 h2
end
theorem or_add {a b : Nat} (k : Nat) (hb : b < 2 ^ k) : 2 ^ k * a ||| b = 2 ^ k * a + b := (Nat.two_pow_add_eq_or_of_lt hb a).symm
theorem or128 {b : Nat} (h : b < 64) : 128 ||| b = 128 + b := or_add (a := 2) 6 h
theorem or192 {b : Nat} (h : b < 32) : 192 ||| b = 192 + b := or_add (a := 6) 5 h
theorem or224 {b : Nat} (h : b < 16) : 224 ||| b = 224 + b := or_add (a := 14) 4 h
theorem or240 {b : Nat} (h : b < 8) : 240 ||| b = 240 + b := or_add (a := 30) 3 h
theorem uisRune_ok {w : World} (n : Int) : Calls Tryz.prog 125 #[.int .i32 n] w (Ret fun v w' => v = .bool (decide (IsR n)) ∧ Evo [] w w') := by
  refine calls_of_cw (N := 17) Tryz.func125 rfl rfl rfl ?_; refine cw_seq ?_; refine cw_region ?_; refine wl_a ?_; refine wl_nil (nrm_then ?_); refine cw_seq ?_; refine cw_region ?_; refine wl_m ?_; refine wl_val rfl (ex_geq rfl rfl) ?_; refine wl_m ?_; refine wl_split (t := 5) rfl (fun hs5 => ?_) (fun hs5 => ?_)
  ·skip
   refine wl_g ?_; refine wl_m ?_; refine wl_g ?_; refine wl_val rfl (ex_leq rfl rfl) ?_; refine wl_pt ?_; refine wl_m ?_; refine wl_split (t := 9) rfl (fun hs9 => ?_) (fun hs9 => ?_)
   ·skip
    refine wl_g ?_; refine wl_m ?_; refine wl_g ?_; refine wl_val rfl (ex_lss rfl rfl) ?_; refine wl_g ?_; refine wl_m ?_; refine wl_split (t := 12) rfl (fun hs12 => ?_) (fun hs12 => ?_)
    ·skip
     refine wl_n ?_; refine wl_n ?_; refine wl_g ?_; refine wl_pt ?_; refine wl_pt ?_; refine wl_a ?_; refine wl_nil (nrm_then ?_); refine cw_ret (body_ret1 rfl rfl ?_)
     exact ⟨congrArg Value.bool (by first | exact decide_eq_decide.2 (by unfold IsR; omega) | exact (decide_eq_true (by unfold IsR; omega)).symm | exact (decide_eq_false (by unfold IsR; omega)).symm), (Evo.refl [] w)⟩
    ·skip
     refine wl_g ?_; refine wl_m ?_; refine wl_g ?_; refine wl_val rfl (ex_gtr rfl rfl) ?_; refine wl_g ?_; refine wl_pf ?_; refine wl_pt ?_; refine wl_a ?_; refine wl_nil (nrm_then ?_); refine cw_ret (body_ret1 rfl rfl ?_)
     exact ⟨congrArg Value.bool (by first | exact decide_eq_decide.2 (by unfold IsR; omega) | exact (decide_eq_true (by unfold IsR; omega)).symm | exact (decide_eq_false (by unfold IsR; omega)).symm), (Evo.refl [] w)⟩
   ·skip
    refine wl_n ?_; refine wl_n ?_; refine wl_n ?_; refine wl_u ?_; refine wl_u ?_; refine wl_n ?_; refine wl_pf ?_; refine wl_a ?_; refine wl_nil (nrm_then ?_); refine cw_ret (body_ret1 rfl rfl ?_)
    exact ⟨congrArg Value.bool (by first | exact decide_eq_decide.2 (by unfold IsR; omega) | exact (decide_eq_true (by unfold IsR; omega)).symm | exact (decide_eq_false (by unfold IsR; omega)).symm), (Evo.refl [] w)⟩
  ·skip
   refine wl_n ?_; refine wl_n ?_; refine wl_pf ?_; refine wl_m ?_; refine wl_n ?_; refine wl_n ?_; refine wl_n ?_; refine wl_u ?_; refine wl_u ?_; refine wl_n ?_; refine wl_pf ?_; refine wl_a ?_; refine wl_nil (nrm_then ?_); refine cw_ret (body_ret1 rfl rfl ?_)
   exact ⟨congrArg Value.bool (by first | exact decide_eq_decide.2 (by unfold IsR; omega) | exact (decide_eq_true (by unfold IsR; omega)).symm | exact (decide_eq_false (by unfold IsR; omega)).symm), (Evo.refl [] w)⟩
theorem utail_ok {w : World} (m : Nat) (hm : m < 2147483648) : Calls Tryz.prog 160 #[.int .i32 (m : Nat)] w (Ret fun v w' => v = .int .u8 ((128 + m % 64 : Nat) : Int) ∧ Evo [] w w') := by
  refine calls_of_cw (N := 7) Tryz.func160 rfl rfl rfl ?_; refine cw_seq ?_; refine cw_region ?_; refine wl_a ?_; refine wl_nil (nrm_then ?_); refine cw_seq ?_; refine cw_region ?_; refine wl_m ?_; refine wl_val rfl (ex_low6 rfl rfl hm) ?_
  refine wl_val rfl (ex_convB (m % 64) rfl Tryz.underlying21 Tryz.underlying5 (by rfl) (by simp [IntKind.max, IntKind.bits, IntKind.signed] <;> omega)) ?_
  refine wl_val rfl (ex_orB (128 + m % 64) (m := 128) rfl rfl rfl rfl (by decide) (by omega) (or128 (by omega))) ?_; refine wl_a ?_; refine wl_nil (nrm_then ?_); refine cw_ret (body_ret1 rfl rfl ?_); exact ⟨rfl, (Evo.refl [] w)⟩
theorem uform_ok {w : World} {a : Option Addr} {n c : Nat} {ds : List Nat} {ob : Option Nat} {r : Int} (m : Nat) (hr : r = (m : Nat)) (hm : m < 1114112) (hO : OwnS w 5 1 a n c (u8s ds) ob) (hl : n ≤ 1000000000) :
    Calls Tryz.prog 126 #[.slice a n c, .int .i32 r] w (Ret fun v w' => ∃ a' c' ob', v = .slice a' (n + (formN m).length) c' ∧ OwnS w' 5 1 a' (n + (formN m).length) c' (u8s (ds ++ formN m)) ob' ∧ Evo ob.toList w w' ∧ (ob' = ob ∨ ∃ g, ob' = some g ∧ w.heap.size ≤ g)) := by
  subst hr; refine calls_of_cw (N := 55) Tryz.func126 rfl rfl rfl ?_; refine cw_seq ?_; refine cw_region ?_; refine wl_a ?_; refine wl_nil (nrm_then ?_); refine cw_seq ?_; refine cw_block ?_; refine cw_seq ?_; refine cw_region ?_; refine wl_m ?_; refine wl_val rfl (ex_lss rfl rfl) ?_; refine wl_a ?_; refine wl_nil (nrm_then ?_); refine cw_if rfl (fun hc5 => ?_) (fun hc5 => ?_)
  ·skip
   refine cw_seq ?_; refine cw_region ?_; refine wl_m ?_; refine wl_m ?_
   refine wl_val rfl (ex_convB (m) rfl Tryz.underlying21 Tryz.underlying5 (by rfl) (by simp [IntKind.max, IntKind.bits, IntKind.signed] <;> omega)) ?_
   refine wl_bslice (vs := [_]) rfl Tryz.slice83 rfl rfl rfl rfl fun b1 w2 hO3 hs4 hw5 => ?_; have hA6 := Apart.new (Lt.own hO) hs4; have hG7 := Ge.new (Evo.refl ob.toList w) hs4; have hE8 := (Evo.refl ob.toList w).then hw5; have hO9 := hO.evo0 hw5; have hszg := (hE8).size; refine wl_append rfl rfl rfl rfl Tryz.app83_83 hO9 (Src.ofOwn hO3 ⟨rfl, trivial⟩) (by omega) fun a2 c2 w12 ob2 hO2 hw15 hob16 => ?_; have hA17 := hA6.symm.app (Lt.own hO3) hob16; have hE18 := hE8.step hw15 (fun y hy => .inl hy); have hO19 := hO3.evo hw15 hA6.symm.own; have hob2 : ob2 = ob ∨ ∃ g, ob2 = some g ∧ w.heap.size ≤ g := hob16.imp id (fun ⟨g, h1, h2⟩ => ⟨g, h1, Nat.le_trans hszg h2⟩); refine wl_a ?_; refine wl_nil (nrm_then ?_); refine cw_ret (ret_block (ret_then (body_ret1 rfl rfl ?_))); refine ⟨a2, c2, ob2, ?_, ?_, hE18, hob2⟩
   · rw [show (formN m).length = 1 from by unfold formN; rw [if_pos (by omega)]; try rfl]
   · rw [show (formN m).length = 1 from by unfold formN; rw [if_pos (by omega)]; try rfl, show u8s (ds ++ formN m) = u8s ds ++ u8s (formN m) from List.map_append]; have h9 := hO2; rw [show u8s (formN m) = _ from by unfold formN; rw [if_pos (by omega)]]; exact h9
  ·skip
   refine cw_seq ?_; refine cw_region ?_; refine wl_m ?_; refine wl_val rfl (ex_lss rfl rfl) ?_; refine wl_a ?_; refine wl_nil (nrm_then ?_); refine cw_if rfl (fun hc13 => ?_) (fun hc13 => ?_)
   ·skip
    refine cw_seq ?_; refine cw_region ?_; refine wl_m ?_; refine wl_m ?_; refine wl_val rfl (ex_shrN (m := m) (n := 6) rfl rfl rfl rfl (by decide)) ?_
    refine wl_val rfl (ex_convB (m / 2 ^ 6) rfl Tryz.underlying21 Tryz.underlying5 (by rfl) (by simp [IntKind.max, IntKind.bits, IntKind.signed] <;> omega)) ?_
    refine wl_val rfl (ex_orB (192 + m / 2 ^ 6) (m := 192) (n := m / 2 ^ 6) rfl rfl rfl rfl (by decide) (by omega) (or192 (by omega))) ?_; refine wl_m ?_; refine wl_call1 (vs := [_]) Tryz.goes160 rfl (utail_ok (m) (by omega)) rfl ?_; rintro _ w20 ⟨rfl, hw21⟩; have hE22 := (Evo.refl ob.toList w).then hw21; have hO23 := hO.evo0 hw21; refine wl_bslice (vs := [_, _]) rfl Tryz.slice83 rfl rfl rfl rfl fun b24 w25 hO26 hs27 hw28 => ?_; have hA29 := Apart.new (Lt.own hO23) hs27; have hG30 := Ge.new hE22 hs27; have hE31 := hE22.then hw28; have hO32 := hO23.evo0 hw28; have hszg := (hE31).size; refine wl_append rfl rfl rfl rfl Tryz.app83_83 hO32 (Src.ofOwn hO26 ⟨rfl, rfl, trivial⟩) (by omega) fun a2 c2 w35 ob2 hO2 hw38 hob39 => ?_; have hA40 := hA29.symm.app (Lt.own hO26) hob39; have hE41 := hE31.step hw38 (fun y hy => .inl hy); have hO42 := hO26.evo hw38 hA29.symm.own; have hob2 : ob2 = ob ∨ ∃ g, ob2 = some g ∧ w.heap.size ≤ g := hob39.imp id (fun ⟨g, h1, h2⟩ => ⟨g, h1, Nat.le_trans hszg h2⟩); refine wl_a ?_; refine wl_nil (nrm_then ?_); refine cw_ret (ret_block (ret_then (body_ret1 rfl rfl ?_))); refine ⟨a2, c2, ob2, ?_, ?_, hE41, hob2⟩
    · rw [show (formN m).length = 2 from by unfold formN; rw [if_neg (by omega), if_pos (by omega)]; try rfl]
    · rw [show (formN m).length = 2 from by unfold formN; rw [if_neg (by omega), if_pos (by omega)]; try rfl, show u8s (ds ++ formN m) = u8s ds ++ u8s (formN m) from List.map_append]; have h9 := hO2; rw [show u8s (formN m) = _ from by unfold formN; rw [if_neg (by omega), if_pos (by omega)]]; exact h9
   ·skip
    refine cw_seq ?_; refine cw_region ?_; refine wl_m ?_; refine wl_val rfl (ex_lss rfl rfl) ?_; refine wl_a ?_; refine wl_nil (nrm_then ?_); refine cw_if rfl (fun hc25 => ?_) (fun hc25 => ?_)
    ·skip
     refine cw_seq ?_; refine cw_region ?_; refine wl_m ?_; refine wl_m ?_; refine wl_val rfl (ex_shrN (m := m) (n := 12) rfl rfl rfl rfl (by decide)) ?_
     refine wl_val rfl (ex_convB (m / 2 ^ 12) rfl Tryz.underlying21 Tryz.underlying5 (by rfl) (by simp [IntKind.max, IntKind.bits, IntKind.signed] <;> omega)) ?_
     refine wl_val rfl (ex_orB (224 + m / 2 ^ 12) (m := 224) (n := m / 2 ^ 12) rfl rfl rfl rfl (by decide) (by omega) (or224 (by omega))) ?_; refine wl_m ?_; refine wl_val rfl (ex_shrN (m := m) (n := 6) rfl rfl rfl rfl (by decide)) ?_; refine wl_call1 (vs := [_]) Tryz.goes160 rfl (utail_ok (m / 2 ^ 6) (by omega)) rfl ?_; rintro _ w43 ⟨rfl, hw44⟩; have hE45 := (Evo.refl ob.toList w).then hw44; have hO46 := hO.evo0 hw44; refine wl_m ?_; refine wl_call1 (vs := [_]) Tryz.goes160 rfl (utail_ok (m) (by omega)) rfl ?_; rintro _ w47 ⟨rfl, hw48⟩; have hE49 := hE45.then hw48; have hO50 := hO46.evo0 hw48; refine wl_bslice (vs := [_, _, _]) rfl Tryz.slice83 rfl rfl rfl rfl fun b51 w52 hO53 hs54 hw55 => ?_; have hA56 := Apart.new (Lt.own hO50) hs54; have hG57 := Ge.new hE49 hs54; have hE58 := hE49.then hw55; have hO59 := hO50.evo0 hw55; have hszg := (hE58).size; refine wl_append rfl rfl rfl rfl Tryz.app83_83 hO59 (Src.ofOwn hO53 ⟨rfl, rfl, rfl, trivial⟩) (by omega) fun a2 c2 w62 ob2 hO2 hw65 hob66 => ?_; have hA67 := hA56.symm.app (Lt.own hO53) hob66; have hE68 := hE58.step hw65 (fun y hy => .inl hy); have hO69 := hO53.evo hw65 hA56.symm.own; have hob2 : ob2 = ob ∨ ∃ g, ob2 = some g ∧ w.heap.size ≤ g := hob66.imp id (fun ⟨g, h1, h2⟩ => ⟨g, h1, Nat.le_trans hszg h2⟩); refine wl_a ?_; refine wl_nil (nrm_then ?_); refine cw_ret (ret_block (ret_then (body_ret1 rfl rfl ?_))); refine ⟨a2, c2, ob2, ?_, ?_, hE68, hob2⟩
     · rw [show (formN m).length = 3 from by unfold formN; rw [if_neg (by omega), if_neg (by omega), if_pos (by omega)]; try rfl]
     · rw [show (formN m).length = 3 from by unfold formN; rw [if_neg (by omega), if_neg (by omega), if_pos (by omega)]; try rfl, show u8s (ds ++ formN m) = u8s ds ++ u8s (formN m) from List.map_append]; have h9 := hO2; rw [show u8s (formN m) = _ from by unfold formN; rw [if_neg (by omega), if_neg (by omega), if_pos (by omega)]]; exact h9
    ·skip
     refine cw_skip (nrm_block (nrm_then ?_)); refine cw_seq ?_; refine cw_region ?_; refine wl_m ?_; refine wl_m ?_; refine wl_val rfl (ex_shrN (m := m) (n := 18) rfl rfl rfl rfl (by decide)) ?_
     refine wl_val rfl (ex_convB (m / 2 ^ 18) rfl Tryz.underlying21 Tryz.underlying5 (by rfl) (by simp [IntKind.max, IntKind.bits, IntKind.signed] <;> omega)) ?_
     refine wl_val rfl (ex_orB (240 + m / 2 ^ 18) (m := 240) (n := m / 2 ^ 18) rfl rfl rfl rfl (by decide) (by omega) (or240 (by omega))) ?_; refine wl_m ?_; refine wl_val rfl (ex_shrN (m := m) (n := 12) rfl rfl rfl rfl (by decide)) ?_; refine wl_call1 (vs := [_]) Tryz.goes160 rfl (utail_ok (m / 2 ^ 12) (by omega)) rfl ?_; rintro _ w70 ⟨rfl, hw71⟩; have hE72 := (Evo.refl ob.toList w).then hw71; have hO73 := hO.evo0 hw71; refine wl_m ?_; refine wl_val rfl (ex_shrN (m := m) (n := 6) rfl rfl rfl rfl (by decide)) ?_; refine wl_call1 (vs := [_]) Tryz.goes160 rfl (utail_ok (m / 2 ^ 6) (by omega)) rfl ?_; rintro _ w74 ⟨rfl, hw75⟩; have hE76 := hE72.then hw75; have hO77 := hO73.evo0 hw75; refine wl_m ?_; refine wl_call1 (vs := [_]) Tryz.goes160 rfl (utail_ok (m) (by omega)) rfl ?_; rintro _ w78 ⟨rfl, hw79⟩; have hE80 := hE76.then hw79; have hO81 := hO77.evo0 hw79; refine wl_bslice (vs := [_, _, _, _]) rfl Tryz.slice83 rfl rfl rfl rfl fun b82 w83 hO84 hs85 hw86 => ?_; have hA87 := Apart.new (Lt.own hO81) hs85; have hG88 := Ge.new hE80 hs85; have hE89 := hE80.then hw86; have hO90 := hO81.evo0 hw86; have hszg := (hE89).size; refine wl_append rfl rfl rfl rfl Tryz.app83_83 hO90 (Src.ofOwn hO84 ⟨rfl, rfl, rfl, rfl, trivial⟩) (by omega) fun a2 c2 w93 ob2 hO2 hw96 hob97 => ?_; have hA98 := hA87.symm.app (Lt.own hO84) hob97; have hE99 := hE89.step hw96 (fun y hy => .inl hy); have hO100 := hO84.evo hw96 hA87.symm.own; have hob2 : ob2 = ob ∨ ∃ g, ob2 = some g ∧ w.heap.size ≤ g := hob97.imp id (fun ⟨g, h1, h2⟩ => ⟨g, h1, Nat.le_trans hszg h2⟩); refine wl_a ?_; refine wl_nil (nrm_then ?_); refine cw_ret (body_ret1 rfl rfl ?_); refine ⟨a2, c2, ob2, ?_, ?_, hE99, hob2⟩
     · rw [show (formN m).length = 4 from by unfold formN; rw [if_neg (by omega), if_neg (by omega), if_neg (by omega)]; try rfl]
     · rw [show (formN m).length = 4 from by unfold formN; rw [if_neg (by omega), if_neg (by omega), if_neg (by omega)]; try rfl, show u8s (ds ++ formN m) = u8s ds ++ u8s (formN m) from List.map_append]; have h9 := hO2; rw [show u8s (formN m) = _ from by unfold formN; rw [if_neg (by omega), if_neg (by omega), if_neg (by omega)]]; exact h9
structure TxG where
  k : Nat
  na : Option Addr
  nc : Nat
  no : Option Nat
def frm (rs : List Int) : List Nat := rs.flatMap formB
theorem frm_succ {rs : List Int} {k : Nat} (h : k < rs.length) : frm (rs.take (k + 1)) = frm (rs.take k) ++ formB rs[k] := by
  unfold frm; rw [List.take_add_one, List.getElem?_eq_getElem h, List.flatMap_append]; simp
theorem frm_len (rs : List Int) : (frm rs).length ≤ 4 * rs.length := by
  induction rs with
  | nil => exact Nat.zero_le _
  | cons r rs ih => have := formB_len r; unfold frm at ih ⊢; rw [List.flatMap_cons, List.length_append, List.length_cons]; omega
theorem frm_lt (rs : List Int) : ∀ b, b ∈ frm rs → b < 256 := fun b hb => by
  obtain ⟨r, _, h⟩ := List.mem_flatMap.1 hb
  exact formB_lt r b h
structure TxI (w wr : World) (a : Option Addr) (c : Nat) (ob : Option Nat) (rs : List Int) (x : TxG) : Prop where
  src : OwnS wr 21 1 a rs.length c (i32s rs) ob
  k : x.k ≤ rs.length
  all : ∀ r, r ∈ rs.take x.k → IsR r
  own : OwnS wr 5 1 x.na (frm (rs.take x.k)).length x.nc (u8s (frm (rs.take x.k))) x.no
  ge : Ge w x.no
theorem utext_ok {w : World} {a : Option Addr} {c : Nat} {rs : List Int} {ob : Option Nat} (hO : OwnS w 21 1 a rs.length c (i32s rs) ob) (hl : rs.length ≤ 100000000) :
    Calls Tryz.prog 78 #[.slice a rs.length c] w (Ret fun v w' => ((v = .tuple #[.string (bstr (frm rs)), iv 0] ∧ ∀ r, r ∈ rs → IsR r) ∨ (v = .tuple #[.string (ByteArray.mk #[]), iv 12] ∧ ¬ ∀ r, r ∈ rs → IsR r)) ∧ Evo [] w w') := by
  refine calls_of_cw (N := 25) Tryz.func78 rfl rfl rfl ?_; refine cw_seq ?_; refine cw_region ?_; refine wl_a ?_; refine wl_a ?_; refine wl_nil (nrm_then ?_); refine cw_seq ?_; refine cw_region ?_; refine wl_m ?_; refine wl_val rfl (ex_len_slice rfl Tryz.underlying135 rfl) ?_; refine wl_make (len := 0) (c := rs.length) rfl rfl rfl Tryz.make83 (by omega) (by omega) (by omega) (by decide) (by omega) (by omega) fun b4 w2 hN hs4 hw5 => ?_; have hA6 := Apart.new (Lt.own hO) hs4; have hG7 := Ge.new (Evo.refl [] w) hs4; have hE8 := (Evo.refl [] w).then hw5; have hO9 := hO.evo0 hw5; refine wl_a ?_; refine wl_nil (nrm_then ?_); refine cw_seq ?_; refine cw_seq ?_; refine cw_region ?_; refine wl_m ?_; refine wl_val rfl (ex_len_slice rfl Tryz.underlying135 rfl) ?_; refine wl_m ?_; refine wl_nil (nrm_then ?_); refine cw_block ?_; refine cw_loop (α := TxG) (⟨0, some ⟨b4, 0, none⟩, rs.length, some b4⟩) (fun x => [(12, .int .i64 (x.k : Nat)), (4, .slice x.na (frm (rs.take x.k)).length x.nc)]) [(10, _), (11, _)] (fun x wr => Evo [] w wr ∧ (TxI w wr a c ob rs x)) (fun x => rs.length - x.k) ⟨rfl, rfl, trivial⟩ ⟨rfl, rfl, trivial⟩ ⟨hE8, ⟨hO9, Nat.zero_le _, (fun r h => by simp at h), hN, hG7⟩⟩ ?_; rintro ⟨k, na, nc, no⟩ wr10 ⟨hV11, ⟨hsr, hk, hall, hn, hge⟩⟩; show CW _ _ _ _ [(12, .int .i64 (k : Nat)), (4, .slice na (frm (rs.take k)).length nc), (10, _), (11, _)] _
  try dsimp only at hsr
  try dsimp only at hk
  try dsimp only at hall
  try dsimp only at hn
  try dsimp only at hge
  refine cw_seq ?_; refine cw_region ?_; refine wl_val rfl (ex_lss rfl rfl) ?_; refine wl_nil (nrm_then ?_); refine cw_seq ?_; refine cw_if rfl (fun hc13 => ?_) (fun hc13 => ?_)
  ·skip
   have hj' : k < rs.length := by omega
   obtain ⟨gR, hgR, haR, hcR⟩ := hsr.cells (by omega); refine cw_skip (nrm_then ?_); refine cw_seq ?_; refine cw_block ?_; refine cw_seq ?_; refine cw_region ?_
   refine wl_val rfl (ex_indexAddr (n := k) (by rw [haR]; rfl) rfl Tryz.elem135 (by omega)) ?_
   refine wl_val rfl (ex_load1 rfl Tryz.agg21 (by rw [Nat.mul_one]; exact hcR k (.int .i32 rs[k]) (by rw [List.getElem?_map, List.getElem?_eq_getElem hj']; rfl))) ?_
   refine wl_a ?_; refine wl_nil (nrm_then ?_); refine cw_seq ?_; refine cw_seq ?_; refine cw_region ?_; refine wl_m ?_; refine wl_call1 (vs := [_]) Tryz.goes125 rfl (uisRune_ok _) rfl ?_; rintro _ w12 ⟨rfl, hw13⟩; have hE14 := hV11.then hw13; have hO15 := hn.evo0 hw13; have hO16 := hsr.evo0 hw13; refine wl_val rfl (ex_not rfl) ?_; refine wl_nil (nrm_then ?_); refine cw_if rfl (fun hc18 => ?_) (fun hc18 => ?_)
   ·skip
    refine cw_seq ?_; refine cw_region ?_; refine wl_a ?_; refine wl_a ?_; refine wl_nil (nrm_then ?_); refine cw_ret (ret_then (ret_block (ret_then (ret_then (ret_block (ret_then (body_ret2 rfl rfl rfl ?_))))))); exact ⟨.inr ⟨rfl, fun h => (by simpa using hc18 : ¬ IsR rs[k]) (h _ (List.getElem_mem _))⟩, hE14⟩
   ·skip
    have hir : IsR rs[k] := by simpa using hc18
    have hir2 := isr_iff.1 hir; obtain ⟨m, hm⟩ := Int.eq_ofNat_of_zero_le hir2.1
    have hm3 : m < 1114112 := by omega
    refine cw_skip (nrm_then ?_); refine cw_region ?_; refine wl_m ?_; refine wl_m ?_
    refine wl_call1 (vs := [_, _]) Tryz.goes126 rfl (uform_ok m hm hm3 hO15 (by have := frm_len (rs.take k); rw [List.length_take] at this; omega)) rfl ?_
    rintro _ w17 ⟨a1, c1, ob1, rfl, hN1, hw18, hob1⟩; have hA19 := ap_ob (Apart.fresh (Lt.own hO) hge) (Lt.own hO16) hob1; have hG20 := ge_ob hge hE14.size hob1; have hE21 := hE14.step hw18 hge.mem; have hO22 := hO16.evo hw18 (Apart.fresh (Lt.own hO) hge).own; have e9 := frm_succ hj'
    have e8 : formB rs[k] = formN m := by rw [hm, formB, if_pos (hm ▸ hir)]; rfl
    rw [e8] at e9; rw [show (frm (rs.take k)).length + (formN m).length = (frm (rs.take (k + 1))).length from by rw [e9, List.length_append]]; refine wl_a ?_; refine wl_nil (nrm_block (nrm_then ?_)); refine cw_region ?_; refine wl_val rfl (ex_add_i64 rfl rfl (by omega) (by omega)) ?_; refine wl_m ?_; refine wl_nil (nrm_same ?_); refine ⟨⟨k + 1, a1, c1, ob1⟩, ?_, ⟨rfl, rfl, trivial⟩, ⟨rfl, rfl, trivial⟩, hE21, ?_⟩
    · (try dsimp only); omega
    ·skip
     try dsimp only
     refine ⟨hO22, by show k + 1 ≤ _; omega, ?_, ?_, hG20⟩
     · show ∀ r, r ∈ rs.take (k + 1) → IsR r; intro r hr; rw [List.take_add_one, List.getElem?_eq_getElem hj', List.mem_append] at hr; rcases hr with hr | hr; exact hall r hr; (simp at hr; subst hr; exact hir)
     · have h9 := hN1; rw [← e9] at h9; show OwnS _ 5 1 _ (frm (rs.take (k + 1))).length _ (u8s (frm (rs.take (k + 1)))) _; rw [e9, List.length_append, ← e9]; exact h9
  ·skip
   have hall2 : rs.take k = rs := List.take_of_length_le (by omega); refine cw_exit (ex_then (ex_then (ex_here (nrm_then ?_)))); refine cw_seq ?_; refine cw_region ?_; refine wl_m ?_; refine wl_val rfl (ex_bstr (X := []) rfl (own_bstr hn rfl (frm_lt _)) Tryz.underlying83 Tryz.underlying5 Tryz.underlying9) ?_; refine wl_a ?_; refine wl_a ?_; refine wl_nil (nrm_then ?_); refine cw_ret (body_ret2 rfl rfl rfl ?_); exact ⟨.inl ⟨by rw [hall2], hall2 ▸ hall⟩, hV11⟩
end Go.Proofs.YtgnpldackjbdjaaGreat
namespace Go.W
open Go.RowKit
set_option linter.unusedVariables false
set_option linter.unusedSimpArgs false
set_option linter.unusedSectionVars false
def KpB (n0 bs : Nat) (W W' : World) : Prop := (Below n0 W W' ∧ KeepsWalks W W') ∧ W'.heap[bs]? = W.heap[bs]?
def roundRB {α : Type} (B n0 bs : Nat) (I : List α → World → Prop) (Ix : Code → List α → World → Prop) (xs : List α) (W : World) : Post
  | .normal, _, _, W' => KeepsFrom B W W' ∧ KpB n0 bs W W' ∧ I xs W'
  | .ret, _, _, W' => KeepsFrom B W W' ∧ Ix .ret xs W'
  | .exit id, _, _, W' => KeepsFrom B W W' ∧ Ix (.exit id) xs W'
  | .goto t, _, _, W' => KeepsFrom B W W' ∧ Ix (.goto t) xs W'
  | _, _, _, _ => False
theorem cw_rangeFuncW2 {α : Type} {P : Program} {N : NN} {R : Post} {σ : Env} {w : World} {g : Operand} {p q dv dw : Tmp} {assign body : Code} {gf : Nat} {lb : Array Value} {enc en2 : α → Value} {S Sp : List α → Prop} {K n0 bs : Nat}
    (hg : σ.ev g = some (.func (.func gf) #[] lb)) (eg : ∀ args w, (callFunc gf args).run P w = .ok (.enter gf args) w) (hp : (Nat.blt p N.1 && Nat.blt q N.1) = true)
    (hseq : SeqStopsK Fence.wide 4 P gf lb (fun x => #[enc x, en2 x]) (KpB n0 bs) S Sp K w) (hn0 : n0 ≤ w.heap.size ∧ bs < w.heap.size)
    (I : List α → World → Prop) (Ix : Code → List α → World → Prop) (hI : OwnFrom w.heap.size I) (hIx : ∀ c, OwnFrom w.heap.size (Ix c)) (h0 : I [] w)
    (AX : α → Nat → World → Prop) (hAX : ∀ x bx, OwnFrom w.heap.size (fun (_ : Unit) W => AX x bx W))
    (hassign : ∀ l pre x W, I pre W → CWi l 3 P (N.1, []) assign (onlyR (N.1, []) fun σ' W' => ∃ bx, σ' = (dw, en2 x) :: (dv, enc x) :: (q, en2 x) :: (p, enc x) :: σ ∧ KeepsFrom w.heap.size W W' ∧ KpB n0 bs W W' ∧ I pre W' ∧ AX x bx W') ((q, en2 x) :: (p, enc x) :: σ) W)
    (hbody : ∀ l pre x bx W, I pre W → AX x bx W → pre.length < K → CWi l 3 P (N.1, []) body (roundRB w.heap.size n0 bs I Ix (pre ++ [x]) W) ((dw, en2 x) :: (dv, enc x) :: (q, en2 x) :: (p, enc x) :: σ) W)
    (hdone : ∀ D xs W, w.heap.size ≤ D → S xs → I xs W → W.heap[D]? = some (.deferred (some [])) → R .normal (N.1, mark D :: N.2) σ W)
    (hstop : ∀ D c pre W, w.heap.size ≤ D → Sp pre → Ix c pre W → W.heap[D]? = some (.deferred (some [])) → CW P (N.1, mark D :: N.2) c R σ W) :
    CW P N (.rangeFunc g #[p, q] assign body) R σ w := by
  intro a ha
  refine (wpIn_wide (n := 5)).1 (wpIn_rangeFunc_ownH rfl (by omega) (ha.agrees g _ hg) trivial eg hseq (fun h k => ⟨⟨belowK_t h.1.1 k.1.1, walksK_t h.1.2 k.1.2⟩, k.2.trans h.2⟩) (fun W l o o' h1 h2 h3 h4 => ⟨⟨belowK_b hn0.1 W l o o' h1 h2 h3 h4, walksK_b (w := w) W l o o' h1 h2 h3 h4⟩, (evo_putObj W l o').block bs (by have := blk_lt h2; omega) (by simp; omega)⟩) (Below.refl _ _) (fun _ => rfl) I Ix hI hIx h0
    (fun x a' W => ∃ bx, Fits (N.1, []) ((dw, en2 x) :: (dv, enc x) :: (q, en2 x) :: (p, enc x) :: σ) a' ∧ AX x bx W) ?_ ?_ ?_ ?_ ?_)
  · rintro x a' s A B row ⟨bx, hf, hs⟩ hg' hr
    exact ⟨bx, hf, hAX x bx s A B row hs hg' hr⟩
  · intro l pre x W K' hi hK
    have hpq : p < N.1 ∧ q < N.1 := by simpa using hp
    have hf : Fits (N.1, []) ((q, en2 x) :: (p, enc x) :: σ) { tmps := ((#[p, q] : Array Tmp).zip #[enc x, en2 x]).foldl (fun t (p, v) => t.setIfInBounds p v) a.tmps, defers := [] } := by
      have h1 : Fits (N.1, []) σ { tmps := a.tmps, defers := [] } := ⟨ha.1, rfl, ha.2.2⟩
      have h2 := (h1.put (d := p) hpq.1 (enc x)).put (d := q) hpq.2 (en2 x)
      simpa [Act.put] using h2
    refine wpIn_mono (hassign l pre x W hi _ hf) ?_
    intro e a' w' hq
    cases e with
    | normal => obtain ⟨N', σ', hf', rfl, bx, rfl, h1, h2, h3, h4⟩ := hq; exact hK _ _ h1 h2 h3 ⟨bx, hf', h4⟩
    | exit i => obtain ⟨_, _, _, hk⟩ := hq; exact hk.elim
    | goto i => obtain ⟨_, _, _, hk⟩ := hq; exact hk.elim
    | ret => obtain ⟨_, _, _, hk⟩ := hq; exact hk.elim
    | panic i => obtain ⟨_, _, hk⟩ := hq; exact hk.elim
    | outgrown => obtain ⟨_, hk⟩ := hq; exact hk.elim
  · rintro l pre x a' W _ _ hi ⟨bx, hf, hax⟩ hlt
    refine wpIn_mono (hbody l pre x bx W hi hax hlt a' hf) ?_
    intro e a' w' hq
    cases e with
    | normal => obtain ⟨N', σ', hf', hk⟩ := hq; exact hk
    | exit i => obtain ⟨_, _, _, hk⟩ := hq; exact hk
    | goto i => obtain ⟨_, _, _, hk⟩ := hq; exact hk
    | ret => obtain ⟨_, _, _, hk⟩ := hq; exact hk
    | panic i => obtain ⟨_, _, hk⟩ := hq; exact hk.elim
    | outgrown => obtain ⟨_, hk⟩ := hq; exact hk.elim
  · intro D xs W hD hS hi hK
    exact ⟨(N.1, mark D :: N.2), σ, ⟨ha.1, by rw [ha.2.1], ha.2.2⟩, hdone D xs W hD hS hi hK⟩
  · intro D c pre W hD hS hi hK
    exact wpIn_wide.2 (hstop D c pre W hD hS hi hK _ ⟨ha.1, by rw [ha.2.1], ha.2.2⟩)
section
variable {P : Program} {N : NN} {R : Post} {σ : Env} {w w' : World} {ops : Array Oper} {rest : List Oper} {n d : Nat} {op : Op} {T : TypeId} {pos : String} {after : Array Edge}
theorem wly_yield2 {f x y : Operand} {ats : Array TypeId} {l : Nat} {v u0 : Value} {E : Ending → World → Prop} (hd : Nat.blt d N.1 = true) (hf : σ.ev f = some (.func (.yield l) #[] #[])) (hx : σ.ev x = some v) (hy0 : σ.ev y = some u0) (hY : YieldAt Fence.wide (n - 1) P l #[v, u0] w E)
    (hE : ∀ e w', E e w' → ∃ u, e = .returned u ∧ WLy n P N ops R rest ((d, u) :: σ) w') :
    WLy n P N ops R (⟨some d, .call ⟨.value f, #[x, y], ats⟩, T, pos, after, none⟩ :: rest) σ w := fun a ha => wpListIn_plain rfl fun K hK => by
  obtain ⟨fn, tmps, assign, body, hy, hR⟩ := hY
  refine ⟨fun _ _ => trivial, ?_⟩
  have h1 : (execOp a.eval (⟨some d, .call ⟨.value f, #[x, y], ats⟩, T, pos, after, none⟩ : Oper)).run P w = .ok (.round l fn tmps assign body) w := by
    simp [execOp, resolve, Deferred.ofValue, ha.agrees f _ hf, ha.agrees x _ hx, ha.agrees y _ hy0, invoke, hy]
  rw [Oper.semAt_eq _ _ _ (by intro c hc; cases hc), h1]
  refine ⟨fun h => by simp [Fence.wide] at h, hR.mono ?_⟩
  intro e w' he
  obtain ⟨u, rfl, h2⟩ := hE e w' he
  exact hK _ _ (h2 _ (ha.put (of_decide_eq_true (by simpa using hd)) u))
end
end Go.W
namespace Go.Proofs.YtgnpldackjbdjaaGreat
open Go.Proofs
open Go.W Go.RowKit
attribute [local irreducible] Decidable.decide
set_option linter.unusedSimpArgs false
set_option linter.unusedVariables false
theorem Tryz.goes127 : Goes Tryz.prog 127 := ⟨_, Tryz.func127, by kernel_rfl, by kernel_rfl⟩
theorem Tryz.goes103 : Goes Tryz.prog 103 := ⟨_, Tryz.func103, by kernel_rfl, by kernel_rfl⟩
theorem Tryz.goes161 : Goes Tryz.prog 161 := ⟨_, Tryz.func161, by kernel_rfl, by kernel_rfl⟩
theorem next_dec {s : ByteArray} {a : Nat} (ha : a < s.size) (h : (Utf8.decode s a).1 = 65533 → a + 3 ≤ s.size ∧ s.extract a (a + 3) = bstr [239, 191, 189]) :
    (nextR s a).1 = ((Utf8.decode s a).1 : Nat) ∧ (nextR s a).2 = (Utf8.decode s a).2 := by
  have h1 : ¬ ((Utf8.decode s a).1 = 65533 ∧ (Utf8.decode s a).2 = 1) := fun ⟨h1, h2⟩ => by
    have := (decode_repl s a h1 ha).2 (h h1)
    omega
  unfold nextR
  rw [if_pos ⟨ha, h1⟩]
  exact ⟨rfl, rfl⟩
theorem next_ext {s : ByteArray} {a : Nat} (h : 0 < (nextR s a).2) : s.extract a (a + (nextR s a).2) = bstr (formB (nextR s a).1) ∧ (formB (nextR s a).1).length = (nextR s a).2 ∧ IsR (nextR s a).1 := by
  by_cases ha : a < s.size
  · rcases decode_cases s a ha with ⟨w, h1, h2, h3, hh, hd, h4, h5, -⟩ | ⟨h1, hd⟩
    · have hn := (next_hit h1 h2 h3 hh).1
      rw [hn]
      exact ⟨(hit_eq h3).1 hh, hit_len hh, hit_isR h1 hh⟩
    · unfold nextR at h
      rw [if_neg (fun e => e.2 (by rw [hd]; exact ⟨rfl, rfl⟩))] at h
      cases h
  · rw [next_out (by omega)] at h; cases h
theorem next_le {s : ByteArray} {a : Nat} (h : 0 < (nextR s a).2) : a + (nextR s a).2 ≤ s.size := by
  rcases next_cases s a with h1 | h1
  · rw [h1] at h; cases h
  · exact h1.2.2.2.2
theorem ext_app {s : ByteArray} {a b c : Nat} (h1 : a ≤ b) (h2 : b ≤ c) : s.extract a c = s.extract a b ++ s.extract b c := by
  rw [ByteArray.extract_append_extract]
  congr 1 <;> omega
theorem same_step {s t : ByteArray} {p : Nat} (h : s.extract 0 p = t.extract 0 p) (hs : p ≤ s.size) (ht : p ≤ t.size) (hr : (nextR t p).1 = (nextR s p).1) :
    (nextR t p).2 = (nextR s p).2 ∧ p + (nextR s p).2 ≤ s.size ∧ p + (nextR s p).2 ≤ t.size ∧ s.extract 0 (p + (nextR s p).2) = t.extract 0 (p + (nextR s p).2) := by
  have hz : ∀ u : ByteArray, (nextR u p).2 = 0 → (nextR u p).1 = -1 := fun u h0 => by
    rcases next_cases u p with h1 | h1
    · rw [h1]
    · omega
  by_cases e : (nextR s p).2 = 0
  · have e1 := hz s e
    have e2 : (nextR t p).2 = 0 := by
      rcases next_cases t p with h1 | h1
      · rw [h1]
      · omega
    rw [e, e2]; exact ⟨rfl, by omega, by omega, h⟩
  · have h1 := next_ext (s := s) (a := p) (by omega)
    have e2 : 0 < (nextR t p).2 := by
      rcases next_cases t p with h2 | h2
      · rw [h2] at hr
        have := h1.2.2.1
        rw [← hr] at this; simp at this
      · omega
    have h2 := next_ext e2
    have h3 := next_le (s := s) (a := p) (by omega)
    have h4 := next_le e2
    have h5 : (nextR t p).2 = (nextR s p).2 := by rw [← h1.2.1, ← h2.2.1, hr]
    refine ⟨h5, h3, by omega, ?_⟩
    rw [ext_app (s := s) (Nat.zero_le p) (Nat.le_add_right _ _), ext_app (s := t) (Nat.zero_le p) (Nat.le_add_right _ _), h, h1.1, ← h5, h2.1, hr]
theorem next_far {w : World} (s : ByteArray) (a : Nat) (ha : s.size ≤ a) (hl : a ≤ 140737488355328) : Calls Tryz.prog 103 #[.string s, .int .i64 (a : Nat)] w (Ret fun v w' => v = .tuple #[.int .i32 (nextR s a).1, .int .i64 ((nextR s a).2 : Nat)] ∧ Evo [] w w') := by
  refine calls_of_cw (N := 44) Tryz.func103 rfl rfl rfl ?_; refine cw_seq ?_; refine cw_region ?_; refine wl_a ?_; refine wl_a ?_; refine wl_nil (nrm_then ?_); refine cw_seq ?_; refine cw_seq ?_; refine cw_region ?_; refine wl_m ?_; refine wl_val rfl (ex_lss rfl rfl) ?_; refine wl_m ?_; refine wl_split (t := 10) rfl (fun hs10 => ?_) (fun hs10 => ?_)
  ·skip
   refine wl_n ?_; refine wl_n ?_; refine wl_n ?_; refine wl_n ?_; refine wl_pt ?_; refine wl_nil (nrm_then ?_); refine cw_true rfl ?_; refine cw_seq ?_; refine cw_region ?_; refine wl_a ?_; refine wl_a ?_; refine wl_nil (nrm_then ?_); refine cw_ret (ret_then (body_ret2 rfl rfl rfl ?_))
   exfalso; omega
  ·skip
   refine wl_g ?_; refine wl_m ?_; refine wl_g ?_; refine wl_m ?_; refine wl_g ?_; refine wl_val rfl (ex_len_str rfl Tryz.underlying9 rfl) ?_; refine wl_g ?_; refine wl_val rfl (ex_geq rfl rfl) ?_; refine wl_pf ?_; refine wl_nil (nrm_then ?_); refine cw_if rfl (fun hc15 => ?_) (fun hc15 => ?_)
   ·skip
    refine cw_seq ?_; refine cw_region ?_; refine wl_a ?_; refine wl_a ?_; refine wl_nil (nrm_then ?_); refine cw_ret (ret_then (body_ret2 rfl rfl rfl ?_))
    exact ⟨by rw [next_out (by omega)]; rfl, (Evo.refl [] w)⟩
   ·skip
    refine cw_skip (nrm_then ?_); refine cw_seq ?_; refine cw_seq ?_
    exfalso; omega
theorem next_any {w : World} (s : ByteArray) (a : Nat) (hs : s.size ≤ 140737488355328) (hl : a ≤ 140737488355328) : Calls Tryz.prog 103 #[.string s, .int .i64 (a : Nat)] w (Ret fun v w' => v = .tuple #[.int .i32 (nextR s a).1, .int .i64 ((nextR s a).2 : Nat)] ∧ Evo [] w w') := by
  by_cases h : a ≤ s.size
  · exact next_ok s a h hs
  · exact next_far s a (by omega) hl
theorem decode_pos {s : ByteArray} {a : Nat} (ha : a < s.size) : 0 < (Utf8.decode s a).2 := by
  rcases decode_cases s a ha with ⟨w, h1, h2, h3, hh, hd, h4, h5, -⟩ | ⟨h1, hd⟩ <;> rw [hd] <;> simp <;> omega
def AllTo (s : ByteArray) (k : Nat) : Prop := (∀ j, j < k → 0 < (nextR s (offs s j)).2) ∧ (offs s k = s.size ∨ (nextR s (offs s k)).2 = 0)
abbrev rnv (s : ByteArray) (k : Nat) : Value := .int .i64 ((offs s k : Nat) : Int)
abbrev rnr (s : ByteArray) (k : Nat) : Value := .int .i32 (nextR s (offs s k)).1
structure AiI (W wr : World) (s : ByteArray) (Bs it k : Nat) (J : List Nat → World → Prop) : Prop where
  hw : ∀ j, j < k → 0 < (nextR s (offs s j)).2
  hj : J (List.range k) wr
  hit : wr.heap[it]? = some (.stringIter s (offs s k))
  hbs : wr.heap[Bs]? = some (.cells #[.string s] 9 (0, 0))
  hne : it ≠ Bs
  hge : W.heap.size ≤ it
theorem all1_ok {n0 lp Bs : Nat} {W : World} {s : ByteArray} {J Jx : List Nat → World → Prop} (hn0 : n0 ≤ W.heap.size) (hB : W.heap[Bs]? = some (.cells #[.string s] 9 (0, 0))) (hs : s.size ≤ 140737488355320)
    (hJ : AbidesFrom W.heap.size J) (hY : ∀ pre x W1, J pre W1 → pre.length < s.size → YieldAt Fence.wide 3 Tryz.prog lp #[rnv s x, rnr s x] W1 fun e W' => (e = .returned (.bool true) ∧ J (pre ++ [x]) W' ∧ KpB n0 Bs W1 W') ∨ (e = .returned (.bool false) ∧ Jx (pre ++ [x]) W')) (h0 : J [] W) :
    Calls Tryz.prog 161 #[.func (.yield lp) #[] #[], .pointer (some ⟨Bs, 0, none⟩)] W (Ret fun v W' => (∃ k, AllTo s k ∧ J (List.range k) W') ∨ ∃ k, Jx (List.range k) W') := by
  refine calls_of_cw (N := 24) Tryz.func161 rfl rfl rfl ?_; refine cw_seq ?_; refine cw_region ?_; refine wl_val rfl (ex_load1 rfl Tryz.agg9 (cell_nth hB rfl)) ?_; refine wl_rangeS rfl rfl Tryz.underlying9 fun it w1 hB2 hs3 hw4 => ?_; have hA5 := Apart.new (Lt.blk hB) hs3; have hG6 := Ge.new (Evo.refl (XB n0 W) W) hs3; have hG7 := Ge.new (Evo.refl [] W) hs3; have hE8 := (Evo.refl (XB n0 W) W).then hw4; have hE9 := (Evo.refl [] W).then hw4; have hB10 := hw4.blk0 hB; refine wl_nil (nrm_then ?_); refine cw_block ?_
  refine cw_loop (α := Nat) (0) (fun k => []) [(0, _), (1, _), (6, _)] (fun k wr => Evo (XB n0 W) W wr ∧ (AiI W wr s Bs it k J)) (fun k => s.size - offs s k) trivial ⟨rfl, rfl, rfl, trivial⟩ ⟨hE8, ⟨fun j h => (by cases h), hJ _ _ _ none h0 (evo_grown hE9) (fun r e => by cases e), hB2, hB10, (fun e => by have := hG7 _ rfl; have := blk_lt hB; omega), hG7 _ rfl⟩⟩ ?_
  rintro k wr11 ⟨hV12, ⟨hw, hj, hIt, hBs, hne, hIg⟩⟩; show CW _ _ _ _ [(0, _), (1, _), (6, _)] _
  have hAib : Apart (some Bs) (some it) := fun g h1 h2 => hne (by cases h1; cases h2; rfl)
  refine cw_seq ?_; refine cw_region ?_
  by_cases hn13 : offs s k < s.size
  ·skip
   refine wl_nextS rfl rfl hIt hn13 fun w14 hB15 hw16 => ?_; have hE17 := hV12.step hw16 hG6.mem1; have hB18 := hw16.blk hBs hAib.nmem1
   have hj9a := hJ _ _ _ (some it) hj (evo_grown1 hw16) (fun r e => by cases e; exact ⟨hIg, _, hIt, rfl⟩)
   have hlt : offs s k < s.size := by omega
   have hkN : k < s.size := by have := offs_ge hw; omega
   refine wl_val rfl (ex_extract rfl rfl) ?_; refine wl_nil (nrm_then ?_); refine cw_seq ?_; refine cw_true rfl ?_; refine cw_skip (nrm_then ?_); refine cw_block ?_; refine cw_seq ?_; refine cw_region ?_; refine wl_val rfl (ex_extract rfl rfl) ?_; refine wl_val rfl (ex_extract rfl rfl) ?_; refine wl_a ?_; refine wl_a ?_; refine wl_nil (nrm_then ?_); refine cw_seq ?_; refine cw_seq ?_; refine cw_region ?_; refine wl_m ?_; refine wl_val rfl (ex_eql rfl rfl) ?_; refine wl_m ?_; refine wl_split (t := 13) rfl (fun hs13 => ?_) (fun hs13 => ?_)
   ·skip
    refine wl_g ?_; refine wl_val rfl (ex_load1 rfl Tryz.agg9 (cell_nth hB18 rfl)) ?_; refine wl_g ?_; refine wl_m ?_; refine wl_g ?_; refine wl_call1 (vs := [_, _]) Tryz.goes54 rfl (replaced_ok s (offs s k) (offs_le s k) (by omega)) rfl ?_; rintro _ w19 ⟨rfl, hw20⟩; have hE21 := hE17.then hw20; have hE22 := (Evo.refl [] w14).then hw20; have hB23 := hw20.blk0 hB18; have hB24 := hw20.blk0 hB15; refine wl_g ?_; refine wl_val rfl (ex_not rfl) ?_; refine wl_pt ?_; refine wl_nil (nrm_then ?_); refine cw_if rfl (fun hc18 => ?_) (fun hc18 => ?_)
    ·skip
     refine cw_ret (ret_then (ret_block (ret_then (ret_block (body_ret0 rfl ?_))))); exact .inl ⟨k, ⟨hw, .inr (by rw [nextR_bad hlt (by omega) (by simpa using hc18)])⟩, hJ _ _ _ none hj9a (evo_grown hE22) (fun r e => by cases e)⟩
    ·skip
     refine cw_skip (nrm_then ?_); refine cw_seq ?_
     have hnd : (nextR s (offs s k)).1 = ((Utf8.decode s (offs s k)).1 : Nat) ∧ (nextR s (offs s k)).2 = (Utf8.decode s (offs s k)).2 := next_dec hlt (fun h => by first | (exfalso; omega) | simpa using hc18)
     have hdw := decode_pos hlt; refine cw_regionY (n := 4) ?_; refine wly_val rfl (ex_move rfl) ?_; refine wly_val rfl (ex_move rfl) ?_; refine wly_val rfl (ex_move rfl) ?_
     have hyk := hY (List.range k) k w19 (hJ _ _ _ none hj9a (evo_grown hE22) (fun r e => by cases e)) (by rw [List.length_range]; exact hkN)
     rw [show rnr s k = Value.int .i32 (((Utf8.decode s (offs s k)).1 : Nat) : Int) from congrArg _ hnd.1] at hyk
     have hIt9 := hB24; have hBs9 := hB23
     refine wly_yield2 rfl rfl rfl rfl hyk ?_; rintro e w9 (⟨rfl, hj9, hk9⟩ | ⟨rfl, hj9⟩)
     ·skip
      refine ⟨_, rfl, ?_⟩; refine wly_val rfl (ex_notb rfl) ?_; refine wly_nil (nrm_then ?_); have hE9 := xb_then hE21 hk9.1.1 hn0; refine cw_false rfl ?_; refine cw_skip (nrm_block (nrm_same ?_)); refine ⟨(k + 1), ?_, trivial, ⟨rfl, rfl, rfl, trivial⟩, hE9, ?_⟩
      · (have e0 : offs s (k + 1) = offs s k + (nextR s (offs s k)).2 := rfl; rw [e0, hnd.2]; omega)
      ·skip
       have e0 : offs s (k + 1) = offs s k + (nextR s (offs s k)).2 := rfl
       refine ⟨fun j hj => ?_, by rw [List.range_succ]; exact hj9, ?_, hk9.2.trans hBs9, hne, hIg⟩
       · by_cases e : j < k; exact hw j e; (obtain rfl : j = k := by omega); rw [hnd.2]; exact hdw
       · rw [e0, hnd.2]; exact hk9.1.2.same _ _ hIt9 rfl
     ·skip
      refine ⟨_, rfl, ?_⟩; refine wly_val rfl (ex_notb rfl) ?_; refine wly_nil (nrm_then ?_); refine cw_true rfl ?_; refine cw_ret (ret_block (ret_then (ret_block (body_ret0 rfl ?_))))
      exact .inr ⟨k + 1, by rw [List.range_succ]; exact hj9⟩
   ·skip
    refine wl_n ?_; refine wl_n ?_; refine wl_n ?_; refine wl_n ?_; refine wl_pf ?_; refine wl_nil (nrm_then ?_); refine cw_false rfl ?_; refine cw_skip (nrm_then ?_); refine cw_seq ?_
    have hnd : (nextR s (offs s k)).1 = ((Utf8.decode s (offs s k)).1 : Nat) ∧ (nextR s (offs s k)).2 = (Utf8.decode s (offs s k)).2 := next_dec hlt (fun h => by first | (exfalso; omega) | simpa using hc18)
    have hdw := decode_pos hlt; refine cw_regionY (n := 4) ?_; refine wly_val rfl (ex_move rfl) ?_; refine wly_val rfl (ex_move rfl) ?_; refine wly_val rfl (ex_move rfl) ?_
    have hyk := hY (List.range k) k w14 (hJ _ _ _ none hj9a (evo_grown (Evo.refl [] w14)) (fun r e => by cases e)) (by rw [List.length_range]; exact hkN)
    rw [show rnr s k = Value.int .i32 (((Utf8.decode s (offs s k)).1 : Nat) : Int) from congrArg _ hnd.1] at hyk
    have hIt9 := hB15; have hBs9 := hB18
    refine wly_yield2 rfl rfl rfl rfl hyk ?_; rintro e w9 (⟨rfl, hj9, hk9⟩ | ⟨rfl, hj9⟩)
    ·skip
     refine ⟨_, rfl, ?_⟩; refine wly_val rfl (ex_notb rfl) ?_; refine wly_nil (nrm_then ?_); have hE9 := xb_then hE17 hk9.1.1 hn0; refine cw_false rfl ?_; refine cw_skip (nrm_block (nrm_same ?_)); refine ⟨(k + 1), ?_, trivial, ⟨rfl, rfl, rfl, trivial⟩, hE9, ?_⟩
     · (have e0 : offs s (k + 1) = offs s k + (nextR s (offs s k)).2 := rfl; rw [e0, hnd.2]; omega)
     ·skip
      have e0 : offs s (k + 1) = offs s k + (nextR s (offs s k)).2 := rfl
      refine ⟨fun j hj => ?_, by rw [List.range_succ]; exact hj9, ?_, hk9.2.trans hBs9, hne, hIg⟩
      · by_cases e : j < k; exact hw j e; (obtain rfl : j = k := by omega); rw [hnd.2]; exact hdw
      · rw [e0, hnd.2]; exact hk9.1.2.same _ _ hIt9 rfl
    ·skip
     refine ⟨_, rfl, ?_⟩; refine wly_val rfl (ex_notb rfl) ?_; refine wly_nil (nrm_then ?_); refine cw_true rfl ?_; refine cw_ret (ret_block (ret_then (ret_block (body_ret0 rfl ?_))))
     exact .inr ⟨k + 1, by rw [List.range_succ]; exact hj9⟩
  ·skip
   refine wl_nextE rfl rfl hIt hn13 ?_; refine wl_val rfl (ex_extract rfl rfl) ?_; refine wl_nil (nrm_then ?_); refine cw_seq ?_; refine cw_false rfl ?_; refine cw_exit (ex_then (ex_then (ex_here (body_end0 rfl ?_))))
   exact .inl ⟨k, ⟨hw, .inl (by have := offs_le s k; omega)⟩, hj⟩
theorem uall_ok {w : World} (s : ByteArray) : Calls Tryz.prog 127 #[.string s] w (Ret fun v w' => ∃ b, v = .func (.func 161) #[] #[.pointer (some ⟨b, 0, none⟩)] ∧ w'.heap[b]? = some (.cells #[.string s] 9 (0, 0)) ∧ Ge w (some b) ∧ Evo [] w w') := by
  refine calls_of_cw (N := 4) Tryz.func127 rfl rfl rfl ?_; refine cw_seq ?_; refine cw_region ?_; refine wl_box1 rfl rfl rfl fun bq w1 hB2 hs3 hw4 => ?_; have hsz_bq := hs3; have hG5 := Ge.new (Evo.refl [] w) hs3; have hE6 := (Evo.refl [] w).then hw4; refine wl_a ?_; refine wl_nil (nrm_then ?_); refine cw_seq ?_; refine cw_region ?_; refine wl_val rfl (ex_makeFunc (vs := [_]) rfl) ?_; refine wl_a ?_; refine wl_nil (nrm_then ?_); refine cw_ret (body_ret1 rfl rfl ?_); exact ⟨bq, rfl, hB2, hG5, hE6⟩
theorem uall_seq {n0 Bs : Nat} {w : World} {s : ByteArray} (hn0 : n0 ≤ w.heap.size) (hB : w.heap[Bs]? = some (.cells #[.string s] 9 (0, 0))) (hs : s.size ≤ 140737488355320) :
    SeqStopsK Fence.wide 4 Tryz.prog 161 #[.pointer (some ⟨Bs, 0, none⟩)] (fun x : Nat => #[rnv s x, rnr s x]) (KpB n0 Bs) (fun ys => ∃ k, AllTo s k ∧ ys = List.range k) (fun ys => ∃ k, ys = List.range k) s.size w := fun lp J Jx W hW hJ _ hY h0 => by
  have he : Evo [] w W := ⟨hW.os, hW.tape, hW.output, hW.size, fun b hb _ => hW.block b hb⟩
  refine callsIn_wide.2 ((all1_ok (Nat.le_trans hn0 he.size) (he.blk0 hB) hs hJ hY h0).mono ?_)
  rintro e W' ⟨v, rfl, ⟨k, h0, h⟩ | ⟨k, h⟩⟩
  · exact ⟨⟨_, rfl⟩, .inl ⟨_, ⟨k, h0, rfl⟩, h⟩⟩
  · exact ⟨⟨_, rfl⟩, .inr ⟨_, ⟨k, rfl⟩, h⟩⟩
def CmI (a b : ByteArray) (be : Nat) (w1 : World) (pre : List Nat) (W : World) : Prop :=
  ∃ e : Nat, W.heap[be]? = some (.cells #[.int .i64 (e : Nat)] 3 (0, 0)) ∧ Evo [be] w1 W ∧ ((∃ k, pre = List.range k) → e = offs a pre.length ∧ e ≤ b.size ∧ a.extract 0 e = b.extract 0 e)
theorem CmI.own (a b : ByteArray) (be : Nat) (w1 : World) : OwnFrom w1.heap.size (CmI a b be w1) := fun _ _ _ _ ⟨e, h1, h2, h3⟩ hg hr =>
  ⟨e, blk_turn h1 hg (fun r e => (hr r e).2), evo_turn h2 hg (fun r e => (hr r e).1), h3⟩
def CmX (a b : ByteArray) (be : Nat) (w1 : World) (c : Code) (pre : List Nat) (W : World) : Prop := c = .exit 0 ∧ ∃ p x, pre = p ++ [x] ∧ (nextR b (offs a x)).1 ≠ (nextR a (offs a x)).1 ∧ CmI a b be w1 p W
theorem CmX.own (a b : ByteArray) (be : Nat) (w1 : World) (c : Code) : OwnFrom w1.heap.size (CmX a b be w1 c) := fun _ _ _ _ ⟨h1, p, x, h2, h4, h3⟩ hg hr => ⟨h1, p, x, h2, h4, CmI.own a b be w1 _ _ _ _ h3 hg hr⟩
theorem range_snoc {p : List Nat} {x : Nat} (h : ∃ k, p ++ [x] = List.range k) : p = List.range p.length ∧ x = p.length := by
  obtain ⟨k, h⟩ := h
  cases k with
  | zero => simp at h
  | succ k =>
    rw [List.range_succ] at h
    obtain ⟨h1, h2⟩ := List.append_inj' h rfl
    have h3 : x = k := by simpa using h2
    rw [h1, List.length_range, h3]; exact ⟨rfl, rfl⟩
theorem common_ok {w : World} (a b : ByteArray) (hla : a.size ≤ 140737488355320) (hlb : b.size ≤ 140737488355320) :
    Calls Tryz.prog 80 #[.string a, .string b] w (Ret fun v w' => ∃ e : Nat, v = .string (a.extract 0 e) ∧ e ≤ a.size ∧ e ≤ b.size ∧ a.extract 0 e = b.extract 0 e ∧ (a = b → (∃ M, Utf a M) → e = a.size) ∧ (∃ k, e = offs a k ∧ ((∃ M, Utf a M) → e = a.size ∨ (nextR b e).1 ≠ (nextR a e).1)) ∧ Evo [] w w') := by
  refine calls_of_cwM (N := 29) Tryz.func80 rfl rfl rfl ?_; refine cw_seq ?_; refine cw_region ?_; refine wl_box1 rfl rfl rfl fun bb w1 hB2 hs3 hw4 => ?_; have hsz_bb := hs3; have hG5 := Ge.new (Evo.refl [] w) hs3; have hE6 := (Evo.refl [] w).then hw4; refine wl_a ?_; refine wl_nil (nrm_then ?_); refine cw_seq ?_; refine cw_region ?_; refine wl_alloc rfl Tryz.zero3 fun be w7 hB8 hs9 hw10 => ?_; have hsz_be := hs9; have hA11 := Apart.new (Lt.blk hB2) hs9; have hG12 := Ge.new hE6 hs9; have hE13 := hE6.then hw10; have hB14 := hw10.blk0 hB2; refine wl_store1 rfl rfl (by first | rfl | assumption) Tryz.size3 hB8 rfl fun w15 hB16 hw17 => ?_; have hE18 := hE13.step hw17 hG12.mem1; have hB19 := hw17.blk hB14 hA11.nmem1
  try simp only [List.setIfInBounds_toArray, List.set_cons_zero, List.set_cons_succ, Nat.reduceAdd, Nat.zero_add, Nat.add_zero] at hB16
  refine wl_nil (nrm_then ?_); refine cw_seq ?_; refine cw_seq ?_; refine cw_region ?_; refine wl_m ?_; refine wl_call1 (vs := [_]) Tryz.goes127 rfl (uall_ok a) rfl ?_; rintro _ w20 ⟨b1, rfl, hBs, hGs, hw21⟩
  have hnbe : (some b1 : Option Nat) ≠ some be := fun e => by have h1 := hGs b1 rfl; have h2 := blk_lt hB16; cases e; omega
  have hE22 := hE18.then hw21; have hB23 := hw21.blk0 hB19; have hB24 := hw21.blk0 hB16; refine wl_nil (nrm_then ?_); refine cw_block ?_; have hbeg := hG12 _ rfl; have hn0 := (hE22).size; have hbel := blk_lt hB24; have hBsl := blk_lt hBs; have hbne : b1 ≠ be := fun e => hnbe (by rw [e]); refine cw_rangeFuncW2 (α := Nat) (dv := 6) (bs := b1) (dw := 7) (n0 := w.heap.size) rfl (enters_goes Tryz.goes161) rfl (uall_seq hE22.size hBs hla) (⟨(hE22).size, hBsl⟩) (CmI a b be w20) (CmX a b be w20) (CmI.own _ _ _ _) (fun c => CmX.own _ _ _ _ c) (⟨0, hB24, Evo.refl _ _, fun _ => ⟨rfl, Nat.zero_le _, by simp⟩⟩) (fun x b W => True) (fun x b s A B row hs hg hr => hs) ?_ ?_ ?_ ?_
  ·skip
   intro l pre x W hi; obtain ⟨e, hBe, hE1, hcm⟩ := id hi; have hn0W := Nat.le_trans hn0 hE1.size; refine cwi_seq ?_; refine cwi_region rfl (fun _ _ h => h) ?_; refine wl_a ?_; refine wl_nil (nrm_then ?_); refine cwi_region rfl (fun _ _ h => h) ?_; refine wl_a ?_; refine wl_nil (?_); exact nrm_only ⟨0, rfl, keeps_evo (Evo.refl [] W) (fun _ h => by cases h), ⟨⟨evo_below' (Evo.refl [] W) (fun _ h => by cases h) hn0W, walks_evo (Evo.refl [] W) (fun _ h => by cases h)⟩, rfl⟩, hi, trivial⟩
  ·skip
   intro l pre x bx W hi hax hlt; obtain ⟨e, hBe, hE1, hcm⟩ := hi; have hE25 := hE22.step hE1 hG12.mem1; have hB26 := hE1.blk hB23 hA11.nmem1; have hn0W := Nat.le_trans hn0 hE1.size
   have hw4 : (nextR b (offs a x)).2 ≤ 4 := by rcases next_cases b (offs a x) with h | h; rw [h]; omega; omega
   have hol := offs_le a x; refine cwi_block ?_; refine cwi_seq ?_; refine cwi_region rfl (fun _ _ h => h) ?_; refine wl_val rfl (ex_load1 rfl Tryz.agg9 (cell_nth hB26 rfl)) ?_; refine wl_m ?_; refine wl_call1 (vs := [_, _]) Tryz.goes103 rfl (next_any b (offs a x) (by omega) (by omega)) rfl ?_; rintro _ w27 ⟨rfl, hw28⟩; have hE29 := (Evo.refl [be] W).then hw28; have hE30 := hE1.then hw28; have hB31 := hw28.blk0 hB26; have hB32 := hw28.blk0 hBe; refine wl_m ?_; refine wl_val rfl (ex_extract rfl rfl) ?_; refine wl_val rfl (ex_extract rfl rfl) ?_; refine wl_a ?_; refine wl_a ?_; refine wl_nil (nrm_then ?_); refine cwi_seq ?_; refine cwi_seq ?_; refine cwi_region rfl (fun _ _ h => h) ?_; refine wl_m ?_; refine wl_m ?_; refine wl_val rfl (ex_neq rfl rfl) ?_; refine wl_nil (nrm_then ?_); refine cwi_if rfl (fun hc22 => ?_) (fun hc22 => ?_)
   ·skip
    refine cwi_exit (ex_then (ex_past rfl ?_))
    exact ⟨keeps_evo hE29 (fun y hy => .inl (by rw [List.mem_singleton.1 hy]; exact hbel)), rfl, pre, x, rfl, (by omega), e, hB32, hE30, hcm⟩
   ·skip
    refine cwi_skip (nrm_then ?_); refine cwi_region rfl (fun _ _ h => h) ?_; refine wl_m ?_; refine wl_m ?_; refine wl_val rfl (ex_add_i64 rfl rfl (by omega) (by omega)) ?_; rw [show ((offs a x : Nat) : Int) + ((nextR b (offs a x)).2 : Nat) = ((offs a x + (nextR b (offs a x)).2 : Nat) : Int) from by omega]; refine wl_store1 rfl rfl (by first | rfl | assumption) Tryz.size3 hB32 rfl fun w33 hB34 hw35 => ?_; have hE36 := hE29.step hw35 (fun y hy => .inl hy); have hE37 := hE30.step hw35 (fun y hy => .inl hy); have hB38 := hw35.blk hB31 hA11.nmem1
    try simp only [List.setIfInBounds_toArray, List.set_cons_zero, List.set_cons_succ, Nat.reduceAdd, Nat.zero_add, Nat.add_zero] at hB34
    refine wl_nil (nrm_block ?_)
    refine ⟨keeps_evo hE36 (fun y hy => .inl (by rw [List.mem_singleton.1 hy]; exact hbel)), ⟨⟨evo_below' hE36 (fun y hy => by rw [List.mem_singleton.1 hy]; exact hbeg) hn0W, walks_evo hE36 (fun y hy => by rw [List.mem_singleton.1 hy]; exact ⟨_, _, _, hBe⟩)⟩, (hE36).block b1 (Nat.lt_of_lt_of_le hBsl hE1.size) (by simpa using hbne)⟩, ?_⟩
    refine ⟨offs a x + (nextR b (offs a x)).2, hB34, hE37, fun hk => ?_⟩; obtain ⟨h1, h2⟩ := range_snoc hk; obtain ⟨h3, h4, h5⟩ := hcm ⟨_, h1⟩
    rw [← h2] at h3; rw [h3] at h4 h5
    obtain ⟨h6, h7, h8, h9⟩ := same_step h5 hol h4 (by omega)
    rw [h6, List.length_append, ← h2]; exact ⟨rfl, h8, h9⟩
  ·skip
   intro D pre W hD hS hi hK; obtain ⟨e, hBe, hE1, hcm⟩ := hi; have hE39 := hE22.step hE1 hG12.mem1; have hB40 := hE1.blk hB23 hA11.nmem1; obtain ⟨k, hall, rfl⟩ := hS; have hcm2 := hcm ⟨k, rfl⟩; have hel := offs_le a (List.range k).length
   have hfin : a = b → (∃ M, Utf a M) → e = a.size := fun _ ⟨M, hM⟩ => by have h9 := utf_uniq hall.1 hall.2 hM; rw [hcm2.1, List.length_range, h9]; exact hM.1
   have hmx : ∃ k, e = offs a k ∧ ((∃ M, Utf a M) → e = a.size ∨ (nextR b e).1 ≠ (nextR a e).1) := ⟨_, hcm2.1, fun ⟨M, hM⟩ => .inl (by have h9 := utf_uniq hall.1 hall.2 hM; rw [hcm2.1, List.length_range, h9]; exact hM.1)⟩
   skip
   refine nrm_block (nrm_then ?_); refine cw_seq ?_; refine cw_region ?_; refine wl_m ?_; refine wl_val rfl (ex_load1 rfl Tryz.agg3 (cell_nth hBe rfl)) ?_; refine wl_val rfl (ex_ssubTo (h := e) rfl rfl Tryz.underlying9 rfl (by omega)) ?_; refine wl_a ?_; refine wl_nil (nrm_then ?_); refine cw_ret (?_)
   exact body_retM1 [D] rfl (by simp) (fun D' h => by simp at h; subst h; exact hK) (fun w' hw' => ResOk.tmp rfl) (fun w' hw' => ⟨e, rfl, by omega, hcm2.2.1, hcm2.2.2, hfin, hmx, (hE39).step hw' (fun y hy => .inr (by simp at hy; subst hy; omega))⟩)
  ·skip
   intro D c pre W hD hS hi hK; obtain ⟨rfl, p, x, rfl, hqr, hi⟩ := hi; obtain ⟨e, hBe, hE1, hcm⟩ := hi; have hE41 := hE22.step hE1 hG12.mem1; have hB42 := hE1.blk hB23 hA11.nmem1; have hcm2 := hcm ⟨_, (range_snoc hS).1⟩; have hel := offs_le a p.length; have hfin : a = b → (∃ M, Utf a M) → e = a.size := fun h9 _ => (hqr (by rw [h9])).elim
   have hmx : ∃ k, e = offs a k ∧ ((∃ M, Utf a M) → e = a.size ∨ (nextR b e).1 ≠ (nextR a e).1) := ⟨_, hcm2.1, fun _ => .inr (by rw [hcm2.1, ← (range_snoc hS).2]; exact hqr)⟩
   refine cw_exit (ex_here (nrm_then ?_)); refine cw_seq ?_; refine cw_region ?_; refine wl_m ?_; refine wl_val rfl (ex_load1 rfl Tryz.agg3 (cell_nth hBe rfl)) ?_; refine wl_val rfl (ex_ssubTo (h := e) rfl rfl Tryz.underlying9 rfl (by omega)) ?_; refine wl_a ?_; refine wl_nil (nrm_then ?_); refine cw_ret (?_)
   exact body_retM1 [D] rfl (by simp) (fun D' h => by simp at h; subst h; exact hK) (fun w' hw' => ResOk.tmp rfl) (fun w' hw' => ⟨e, rfl, by omega, hcm2.2.1, hcm2.2.2, hfin, hmx, (hE41).step hw' (fun y hy => .inr (by simp at hy; subst hy; omega))⟩)
end Go.Proofs.YtgnpldackjbdjaaGreat
namespace Go.Proofs.YtgnpldackjbdjaaGreat
open Go.Proofs
set_option linter.unusedVariables false
open Go.Shelf
def Tryz.lays169_ren : Go.Shelf.Ren := ⟨fun | 169 => 51 | n => n, fun | 70 => 82 | 9 => 9 | 0 => 0 | 72 => 85 | 37 => 83 | 127 => 151 | 3 => 3 | 5 => 5 | n => n, fun | n => n⟩
theorem Tryz.lays169 : Go.Proofs.Lays.n169 Tryz.prog Tryz.lays169_ren := {
  mixed := by kernel_rfl
  f169 := Tryz.func51.trans (congrArg some (by kernel_rfl))
  t0 := Tryz.underlying0
  a0 := Tryz.isAgg0
  z0 := Tryz.sizeOf0
  v0 := Tryz.zeroValue0
  t3 := Tryz.underlying3
  a3 := Tryz.isAgg3
  z3 := Tryz.sizeOf3
  v3 := Tryz.zeroValue3
  t9 := Tryz.underlying9
  a9 := Tryz.isAgg9
  z9 := Tryz.sizeOf9
  v9 := Tryz.zeroValue9
  t37 := Tryz.underlying83
  a37 := Tryz.isAgg83
  z37 := Tryz.sizeOf83
  v37 := Tryz.zeroValue83
  t70 := Tryz.underlying82
  a70 := Tryz.isAgg82
  z70 := Tryz.sizeOf82
  v70 := Tryz.zeroValue82
  t72 := Tryz.underlying85
  a72 := Tryz.isAgg85
  z72 := Tryz.sizeOf85
  v72 := Tryz.zeroValue85
  t127 := Tryz.underlying151
  a127 := Tryz.isAgg151
  z127 := Tryz.sizeOf151
  v127 := Tryz.zeroValue151 }
theorem Tryz.Builder_Extra_169 : Builder.Extra Tryz.prog Tryz.lays169_ren := {
  sizeBuilder := by kernel_rfl
  liesBuilder := by kernel_rfl
  t5 := Tryz.underlying5
  a5 := Tryz.isAgg5
  z5 := Tryz.sizeOf5
  v5 := Tryz.zeroValue5
  infoByte := by kernel_rfl
  cellsByte := by kernel_rfl
  sizeByte := by kernel_rfl
  neB5 := by decide }
open Go.RowKit in
theorem Tryz.Builder_String_any (B b : Nat) (l : List UInt8) (w : World) (h : Lib.IsBuilder 85 5 B b (Lib.byteCells l) w) (hBw : B ≤ w.heap.size) :
    Calls Tryz.prog 51 #[.pointer (some ⟨b, 0, none⟩)] w fun e w' => e = .returned (.string ⟨l.toArray⟩) ∧ Below B w w' := Any.Builder_String_any Tryz.lays169 Tryz.Builder_Extra_169 B b l w h hBw
def Tryz.lays190_ren : Go.Shelf.Ren := ⟨fun | 190 => 116 | 125 => 152 | 258 => 158 | 128 => 183 | 129 => 184 | 302 => 187 | 303 => 188 | 304 => 189 | 305 => 190 | 306 => 191 | 307 => 192 | 308 => 193 | 309 => 194 | 310 => 195 | 333 => 215 | 329 => 211 | 330 => 212 | 334 => 216 | 335 => 217 | 336 => 218 | 344 => 230 | n => n, fun | 31 => 26 | 9 => 9 | 3 => 3 | 46 => 215 | 0 => 0 | 51 => 238 | 53 => 240 | 4 => 4 | 183 => 232 | 182 => 231 | 131 => 182 | 5 => 5 | 218 => 257 | 222 => 75 | 228 => 272 | 229 => 251 | n => n, fun | n => n⟩
theorem Tryz.lays190 : Go.Proofs.Lays.n190 Tryz.prog Tryz.lays190_ren := {
  mixed := by kernel_rfl
  f125 := Tryz.func152.trans (congrArg some (by kernel_rfl))
  f128 := Tryz.func183.trans (congrArg some (by kernel_rfl))
  f129 := Tryz.func184.trans (congrArg some (by kernel_rfl))
  f190 := Tryz.func116.trans (congrArg some (by kernel_rfl))
  f258 := Tryz.func158.trans (congrArg some (by kernel_rfl))
  f302 := Tryz.func187.trans (congrArg some (by kernel_rfl))
  f303 := Tryz.func188.trans (congrArg some (by kernel_rfl))
  f304 := Tryz.func189.trans (congrArg some (by kernel_rfl))
  f305 := Tryz.func190.trans (congrArg some (by kernel_rfl))
  f306 := Tryz.func191.trans (congrArg some (by kernel_rfl))
  f307 := Tryz.func192.trans (congrArg some (by kernel_rfl))
  f308 := Tryz.func193.trans (congrArg some (by kernel_rfl))
  f309 := Tryz.func194.trans (congrArg some (by kernel_rfl))
  f310 := Tryz.func195.trans (congrArg some (by kernel_rfl))
  f329 := Tryz.func211.trans (congrArg some (by kernel_rfl))
  f330 := Tryz.func212.trans (congrArg some (by kernel_rfl))
  f333 := Tryz.func215.trans (congrArg some (by kernel_rfl))
  f334 := Tryz.func216.trans (congrArg some (by kernel_rfl))
  f335 := Tryz.func217.trans (congrArg some (by kernel_rfl))
  f336 := Tryz.func218.trans (congrArg some (by kernel_rfl))
  f344 := Tryz.func230.trans (congrArg some (by kernel_rfl))
  t0 := Tryz.underlying0
  a0 := Tryz.isAgg0
  z0 := Tryz.sizeOf0
  v0 := Tryz.zeroValue0
  t3 := Tryz.underlying3
  a3 := Tryz.isAgg3
  z3 := Tryz.sizeOf3
  v3 := Tryz.zeroValue3
  t4 := Tryz.underlying4
  a4 := Tryz.isAgg4
  z4 := Tryz.sizeOf4
  v4 := Tryz.zeroValue4
  t5 := Tryz.underlying5
  a5 := Tryz.isAgg5
  z5 := Tryz.sizeOf5
  v5 := Tryz.zeroValue5
  t9 := Tryz.underlying9
  a9 := Tryz.isAgg9
  z9 := Tryz.sizeOf9
  v9 := Tryz.zeroValue9
  t31 := Tryz.underlying26
  a31 := Tryz.isAgg26
  z31 := Tryz.sizeOf26
  v31 := Tryz.zeroValue26
  t46 := Tryz.underlying215
  a46 := Tryz.isAgg215
  z46 := Tryz.sizeOf215
  v46 := Tryz.zeroValue215
  t51 := Tryz.underlying238
  a51 := Tryz.isAgg238
  z51 := Tryz.sizeOf238
  v51 := Tryz.zeroValue238
  t53 := Tryz.underlying240
  a53 := Tryz.isAgg240
  z53 := Tryz.sizeOf240
  v53 := Tryz.zeroValue240
  t131 := Tryz.underlying182
  a131 := Tryz.isAgg182
  z131 := Tryz.sizeOf182
  v131 := Tryz.zeroValue182
  t182 := Tryz.underlying231
  a182 := Tryz.isAgg231
  z182 := Tryz.sizeOf231
  v182 := Tryz.zeroValue231
  t183 := Tryz.underlying232
  a183 := Tryz.isAgg232
  z183 := Tryz.sizeOf232
  v183 := Tryz.zeroValue232
  t218 := Tryz.underlying257
  a218 := Tryz.isAgg257
  z218 := Tryz.sizeOf257
  v218 := Tryz.zeroValue257
  t222 := Tryz.underlying75
  a222 := Tryz.isAgg75
  z222 := Tryz.sizeOf75
  v222 := Tryz.zeroValue75
  t228 := Tryz.underlying272
  a228 := Tryz.isAgg272
  z228 := Tryz.sizeOf272
  v228 := Tryz.zeroValue272
  t229 := Tryz.underlying251
  a229 := Tryz.isAgg251
  z229 := Tryz.sizeOf251
  v229 := Tryz.zeroValue251 }
open Go.Sort Go.RowKit in
theorem Tryz.slices_Sort_string (blk off cap : Nat) (ss : List (List UInt8)) (w : World) (hH : Holds encStr w blk off ss.toArray) (hblk : blk < w.heap.size) (hsz : ss.length < 4611686018427387904) :
    Calls Tryz.prog 116 #[.slice (some ⟨blk, off, none⟩) ss.length cap] w fun e w' =>
      e = .returned (.tuple #[]) ∧ ∃ n os, w' = grow (putRow encStr (Sort.ahead w n) blk off (ss.mergeSort fun x y => decide (x ≤ y)).toArray) os := Any.slices_Sort_string Tryz.lays190 blk off cap ss w hH hblk hsz
def Tryz.lays105_ren : Go.Shelf.Ren := ⟨fun | 105 => 128 | 212 => 162 | 99 => 163 | 165 => 164 | 166 => 79 | 170 => 165 | 169 => 51 | 263 => 196 | 264 => 197 | 206 => 198 | 240 => 96 | 241 => 199 | 276 => 139 | 277 => 219 | n => n, fun | 9 => 9 | 3 => 3 | 4 => 4 | 20 => 20 | 0 => 0 | 46 => 215 | 109 => 220 | 5 => 5 | 72 => 85 | 76 => 136 | 51 => 238 | 146 => 247 | 53 => 240 | 148 => 249 | 70 => 82 | 37 => 83 | 75 => 88 | 127 => 151 | 164 => 202 | 80 => 90 | n => n, fun | n => n⟩
theorem Tryz.lays105 : Go.Proofs.Lays.n105 Tryz.prog Tryz.lays105_ren := {
  mixed := by kernel_rfl
  f99 := Tryz.func163.trans (congrArg some (by kernel_rfl))
  f105 := Tryz.func128.trans (congrArg some (by kernel_rfl))
  f165 := Tryz.func164.trans (congrArg some (by kernel_rfl))
  f166 := Tryz.func79.trans (congrArg some (by kernel_rfl))
  f169 := Tryz.func51.trans (congrArg some (by kernel_rfl))
  f170 := Tryz.func165.trans (congrArg some (by kernel_rfl))
  f206 := Tryz.func198.trans (congrArg some (by kernel_rfl))
  f212 := Tryz.func162.trans (congrArg some (by kernel_rfl))
  f240 := Tryz.func96.trans (congrArg some (by kernel_rfl))
  f241 := Tryz.func199.trans (congrArg some (by kernel_rfl))
  f263 := Tryz.func196.trans (congrArg some (by kernel_rfl))
  f264 := Tryz.func197.trans (congrArg some (by kernel_rfl))
  f276 := Tryz.func139.trans (congrArg some (by kernel_rfl))
  f277 := Tryz.func219.trans (congrArg some (by kernel_rfl))
  t0 := Tryz.underlying0
  a0 := Tryz.isAgg0
  z0 := Tryz.sizeOf0
  v0 := Tryz.zeroValue0
  t3 := Tryz.underlying3
  a3 := Tryz.isAgg3
  z3 := Tryz.sizeOf3
  v3 := Tryz.zeroValue3
  t4 := Tryz.underlying4
  a4 := Tryz.isAgg4
  z4 := Tryz.sizeOf4
  v4 := Tryz.zeroValue4
  t5 := Tryz.underlying5
  a5 := Tryz.isAgg5
  z5 := Tryz.sizeOf5
  v5 := Tryz.zeroValue5
  t9 := Tryz.underlying9
  a9 := Tryz.isAgg9
  z9 := Tryz.sizeOf9
  v9 := Tryz.zeroValue9
  t20 := Tryz.underlying20
  a20 := Tryz.isAgg20
  z20 := Tryz.sizeOf20
  v20 := Tryz.zeroValue20
  t37 := Tryz.underlying83
  a37 := Tryz.isAgg83
  z37 := Tryz.sizeOf83
  v37 := Tryz.zeroValue83
  t46 := Tryz.underlying215
  a46 := Tryz.isAgg215
  z46 := Tryz.sizeOf215
  v46 := Tryz.zeroValue215
  t51 := Tryz.underlying238
  a51 := Tryz.isAgg238
  z51 := Tryz.sizeOf238
  v51 := Tryz.zeroValue238
  t53 := Tryz.underlying240
  a53 := Tryz.isAgg240
  z53 := Tryz.sizeOf240
  v53 := Tryz.zeroValue240
  t70 := Tryz.underlying82
  a70 := Tryz.isAgg82
  z70 := Tryz.sizeOf82
  v70 := Tryz.zeroValue82
  t72 := Tryz.underlying85
  a72 := Tryz.isAgg85
  z72 := Tryz.sizeOf85
  v72 := Tryz.zeroValue85
  t75 := Tryz.underlying88
  a75 := Tryz.isAgg88
  z75 := Tryz.sizeOf88
  v75 := Tryz.zeroValue88
  t76 := Tryz.underlying136
  a76 := Tryz.isAgg136
  z76 := Tryz.sizeOf136
  v76 := Tryz.zeroValue136
  t109 := Tryz.underlying220
  a109 := Tryz.isAgg220
  z109 := Tryz.sizeOf220
  v109 := Tryz.zeroValue220
  t127 := Tryz.underlying151
  a127 := Tryz.isAgg151
  z127 := Tryz.sizeOf151
  v127 := Tryz.zeroValue151
  t146 := Tryz.underlying247
  a146 := Tryz.isAgg247
  z146 := Tryz.sizeOf247
  v146 := Tryz.zeroValue247
  t148 := Tryz.underlying249
  a148 := Tryz.isAgg249
  z148 := Tryz.sizeOf249
  v148 := Tryz.zeroValue249
  t164 := Tryz.underlying202
  a164 := Tryz.isAgg202
  z164 := Tryz.sizeOf202
  v164 := Tryz.zeroValue202 }
theorem Tryz.Builder_Extra_105 : Builder.Extra Tryz.prog Tryz.lays105_ren := {
  sizeBuilder := by kernel_rfl
  liesBuilder := by kernel_rfl
  t5 := Tryz.underlying5
  a5 := Tryz.isAgg5
  z5 := Tryz.sizeOf5
  v5 := Tryz.zeroValue5
  infoByte := by kernel_rfl
  cellsByte := by kernel_rfl
  sizeByte := by kernel_rfl
  neB5 := by decide }
open Go.RowKit Go.Lib in
theorem Tryz.strings_Repeat (s : ByteArray) (c : Nat) (w : World) (hc : c ≤ 9223372036854775807) (hlen : s.size * c ≤ 140737488355328) :
    Calls Tryz.prog 128 #[.string s, .int .i64 c] w fun e w' => e = .returned (.string ⟨(Lib.repeatL s.data.toList c).toArray⟩) ∧ Below w.heap.size w w' := Any.strings_Repeat Tryz.lays105 Tryz.Builder_Extra_105 s c w hc hlen
def Tryz.laysNm216_ren : Go.Shelf.Ren := ⟨fun | 16 => 122 | n => n, fun | 24 => 26 | 9 => 9 | 4 => 4 | n => n, fun | n => n⟩
theorem Tryz.laysNm216 : Go.Proofs.Lays2.n16 Tryz.prog Tryz.laysNm216_ren := {
  mixed := by kernel_rfl
  f16 := Tryz.func122.trans (congrArg some (by kernel_rfl))
  t4 := Tryz.underlying4
  a4 := Tryz.isAgg4
  z4 := Tryz.sizeOf4
  v4 := Tryz.zeroValue4
  t9 := Tryz.underlying9
  a9 := Tryz.isAgg9
  z9 := Tryz.sizeOf9
  v9 := Tryz.zeroValue9
  t24 := Tryz.underlying26
  a24 := Tryz.isAgg26
  z24 := Tryz.sizeOf26
  v24 := Tryz.zeroValue26
  i9 := by kernel_rfl }
open Go.RowKit Go.Lib in
theorem Tryz.slices_Clone_string (b off n c : Nat) (zs : List ByteArray) (w : World) (hz : n ≤ zs.length) (hbig : n * 16 ≤ 140737488355328) (hc : ∀ j, j < zs.length → w.cell? ⟨b, off + j, none⟩ = some (.string (zs.getD j ByteArray.empty))) :
    Calls Tryz.prog 122 #[.slice (some ⟨b, off, none⟩) n c] w fun e w' => ∃ v', e = .returned v' ∧ w'.ownsRow w.heap.size 9 1 v' n ((zs.take n).map (Value.string)) ∧ v' ≠ .slice none 0 0 ∧ Below w.heap.size w w' := Any.slices_Clone_string Tryz.laysNm216 b off n c zs w hz hbig hc
open Go.RowKit Go.Lib in
theorem Tryz.slices_Clone_string_nil (n c : Nat) (w : World) :
    Calls Tryz.prog 122 #[.slice none n c] w fun e w' => e = .returned (.slice none 0 0) ∧ w' = w := Any.slices_Clone_string_nil Tryz.laysNm216 n c w
open Go.RowKit Go.Lib in
theorem Tryz.slices_Clone_string_zero (a : Addr) (c : Nat) (w : World) :
    Calls Tryz.prog 122 #[.slice (some a) 0 c] w fun e w' => ∃ v', e = .returned v' ∧ w'.ownsRow w.heap.size 9 1 v' 0 [] ∧ v' ≠ .slice none 0 0 ∧ Below w.heap.size w w' := Any.slices_Clone_string_zero Tryz.laysNm216 a c w
def Tryz.lays194_ren : Go.Shelf.Ren := ⟨fun | 194 => 159 | n => n, fun | 31 => 26 | 9 => 9 | 3 => 3 | 4 => 4 | 0 => 0 | n => n, fun | n => n⟩
theorem Tryz.lays194 : Go.Proofs.Lays.n194 Tryz.prog Tryz.lays194_ren := {
  mixed := by kernel_rfl
  f194 := Tryz.func159.trans (congrArg some (by kernel_rfl))
  t0 := Tryz.underlying0
  a0 := Tryz.isAgg0
  z0 := Tryz.sizeOf0
  v0 := Tryz.zeroValue0
  t3 := Tryz.underlying3
  a3 := Tryz.isAgg3
  z3 := Tryz.sizeOf3
  v3 := Tryz.zeroValue3
  t4 := Tryz.underlying4
  a4 := Tryz.isAgg4
  z4 := Tryz.sizeOf4
  v4 := Tryz.zeroValue4
  t9 := Tryz.underlying9
  a9 := Tryz.isAgg9
  z9 := Tryz.sizeOf9
  v9 := Tryz.zeroValue9
  t31 := Tryz.underlying26
  a31 := Tryz.isAgg26
  z31 := Tryz.sizeOf26
  v31 := Tryz.zeroValue26 }
open Go.RowKit Go.Lib Go.Sort in
theorem Tryz.slices_Compact_string_empty (a : Option Addr) (cap : Nat) (w : World) :
    Calls Tryz.prog 159 #[.slice a 0 cap] w fun e w' => e = .returned (.slice a 0 cap) ∧ w' = w := Any.slices_Compact_string_empty Tryz.lays194 a cap w
open Go.RowKit Go.Sort in
theorem Tryz.slices_Sort_string_none (p : Option Addr) (cap : Nat) (w : World) :
    Calls Tryz.prog 116 #[.slice p 0 cap] w fun e w' => e = .returned (.tuple #[]) ∧ w' = w := Any.slices_Sort_string_none Tryz.lays190 p cap w
end Go.Proofs.YtgnpldackjbdjaaGreat
