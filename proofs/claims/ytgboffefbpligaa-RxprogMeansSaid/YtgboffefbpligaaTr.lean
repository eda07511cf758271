/- The reference's small parts: in, wordRune, Place, add, same. -/
import Derived.Test.YtgboffefbpligaaTq
import Derived.Test.YtgboffefbpligaaPg
namespace Go.Proofs.Ytgboffefbpligaa
open Go.Proofs
open Go.W Go.RowKit
attribute [local irreducible] Decidable.decide
set_option linter.unusedSimpArgs false
set_option linter.unusedVariables false
theorem Try.elem58 : elemB Try.prog 58 = some 1 := by kernel_rfl
theorem Try.goes83 : Goes Try.prog 83 := ⟨_, Try.func83, by kernel_rfl, by kernel_rfl⟩

theorem wordRune9_ok {w : World} (c : Int) : Calls Try.prog 83 #[.int .i32 c] w (Ret fun v w' => v = .bool (decide (wordI c)) ∧ Evo [] w w') := by
  refine calls_of_cw (N := 29) Try.func83 rfl rfl rfl ?_
  refine cw_seq ?_
  refine cw_region ?_
  refine wl_a ?_
  refine wl_nil (nrm_then ?_)
  refine cw_seq ?_
  refine cw_region ?_
  refine wl_m ?_
  refine wl_val rfl (ex_geq rfl rfl) ?_
  refine wl_m ?_
  refine wl_split (t := 5) rfl (fun hs5 => ?_) (fun hs5 => ?_)
  ·skip
   refine wl_g ?_
   refine wl_m ?_
   refine wl_g ?_
   refine wl_val rfl (ex_leq rfl rfl) ?_
   refine wl_pt ?_
   refine wl_m ?_
   refine wl_split (t := 9) rfl (fun hs9 => ?_) (fun hs9 => ?_)
   ·skip
    refine wl_n ?_
    refine wl_n ?_
    refine wl_n ?_
    refine wl_u ?_
    refine wl_u ?_
    refine wl_n ?_
    refine wl_pt ?_
    refine wl_m ?_
    refine wl_n ?_
    refine wl_n ?_
    refine wl_n ?_
    refine wl_u ?_
    refine wl_u ?_
    refine wl_n ?_
    refine wl_pt ?_
    refine wl_m ?_
    refine wl_n ?_
    refine wl_n ?_
    refine wl_pt ?_
    refine wl_a ?_
    refine wl_nil (nrm_then ?_)
    refine cw_ret (body_ret1 rfl rfl ?_)
    refine ⟨congrArg Value.bool (Bool.eq_iff_iff.2 ?_), (Evo.refl [] w)⟩
    simp only [decide_eq_true_eq, Bool.false_eq_true, Bool.true_eq_false, true_iff, false_iff, eq_self, iff_true]; unfold wordI; omega
   ·skip
    refine wl_g ?_
    refine wl_m ?_
    refine wl_g ?_
    refine wl_val rfl (ex_geq rfl rfl) ?_
    refine wl_g ?_
    refine wl_m ?_
    refine wl_split (t := 12) rfl (fun hs12 => ?_) (fun hs12 => ?_)
    ·skip
     refine wl_g ?_
     refine wl_m ?_
     refine wl_g ?_
     refine wl_val rfl (ex_leq rfl rfl) ?_
     refine wl_g ?_
     refine wl_pt ?_
     refine wl_pf ?_
     refine wl_m ?_
     refine wl_split (t := 17) rfl (fun hs17 => ?_) (fun hs17 => ?_)
     ·skip
      refine wl_n ?_
      refine wl_n ?_
      refine wl_n ?_
      refine wl_u ?_
      refine wl_u ?_
      refine wl_n ?_
      refine wl_pt ?_
      refine wl_m ?_
      refine wl_n ?_
      refine wl_n ?_
      refine wl_pt ?_
      refine wl_a ?_
      refine wl_nil (nrm_then ?_)
      refine cw_ret (body_ret1 rfl rfl ?_)
      refine ⟨congrArg Value.bool (Bool.eq_iff_iff.2 ?_), (Evo.refl [] w)⟩
      simp only [decide_eq_true_eq, Bool.false_eq_true, Bool.true_eq_false, true_iff, false_iff, eq_self, iff_true]; unfold wordI; omega
     ·skip
      refine wl_g ?_
      refine wl_m ?_
      refine wl_g ?_
      refine wl_val rfl (ex_geq rfl rfl) ?_
      refine wl_g ?_
      refine wl_m ?_
      refine wl_split (t := 20) rfl (fun hs20 => ?_) (fun hs20 => ?_)
      ·skip
       refine wl_g ?_
       refine wl_m ?_
       refine wl_g ?_
       refine wl_val rfl (ex_leq rfl rfl) ?_
       refine wl_g ?_
       refine wl_pt ?_
       refine wl_pf ?_
       refine wl_m ?_
       refine wl_split (t := 25) rfl (fun hs25 => ?_) (fun hs25 => ?_)
       ·skip
        refine wl_n ?_
        refine wl_n ?_
        refine wl_pt ?_
        refine wl_a ?_
        refine wl_nil (nrm_then ?_)
        refine cw_ret (body_ret1 rfl rfl ?_)
        refine ⟨congrArg Value.bool (Bool.eq_iff_iff.2 ?_), (Evo.refl [] w)⟩
        simp only [decide_eq_true_eq, Bool.false_eq_true, Bool.true_eq_false, true_iff, false_iff, eq_self, iff_true]; unfold wordI; omega
       ·skip
        refine wl_g ?_
        refine wl_m ?_
        refine wl_g ?_
        refine wl_val rfl (ex_eql rfl rfl) ?_
        refine wl_pf ?_
        refine wl_a ?_
        refine wl_nil (nrm_then ?_)
        refine cw_ret (body_ret1 rfl rfl ?_)
        refine ⟨congrArg Value.bool (Bool.eq_iff_iff.2 ?_), (Evo.refl [] w)⟩
        simp only [decide_eq_true_eq, Bool.false_eq_true, Bool.true_eq_false, true_iff, false_iff, eq_self, iff_true]; unfold wordI; omega
      ·skip
       refine wl_n ?_
       refine wl_n ?_
       refine wl_g ?_
       refine wl_pf ?_
       refine wl_pf ?_
       refine wl_m ?_
       refine wl_g ?_
       refine wl_m ?_
       refine wl_g ?_
       refine wl_val rfl (ex_eql rfl rfl) ?_
       refine wl_pf ?_
       refine wl_a ?_
       refine wl_nil (nrm_then ?_)
       refine cw_ret (body_ret1 rfl rfl ?_)
       refine ⟨congrArg Value.bool (Bool.eq_iff_iff.2 ?_), (Evo.refl [] w)⟩
       simp only [decide_eq_true_eq, Bool.false_eq_true, Bool.true_eq_false, true_iff, false_iff, eq_self, iff_true]; unfold wordI; omega
    ·skip
     refine wl_n ?_
     refine wl_n ?_
     refine wl_g ?_
     refine wl_pf ?_
     refine wl_pf ?_
     refine wl_m ?_
     refine wl_g ?_
     refine wl_m ?_
     refine wl_g ?_
     refine wl_val rfl (ex_geq rfl rfl) ?_
     refine wl_g ?_
     refine wl_m ?_
     refine wl_split (t := 20) rfl (fun hs20 => ?_) (fun hs20 => ?_)
     ·skip
      refine wl_g ?_
      refine wl_m ?_
      refine wl_g ?_
      refine wl_val rfl (ex_leq rfl rfl) ?_
      refine wl_g ?_
      refine wl_pt ?_
      refine wl_pf ?_
      refine wl_m ?_
      refine wl_split (t := 25) rfl (fun hs25 => ?_) (fun hs25 => ?_)
      ·skip
       refine wl_n ?_
       refine wl_n ?_
       refine wl_pt ?_
       refine wl_a ?_
       refine wl_nil (nrm_then ?_)
       refine cw_ret (body_ret1 rfl rfl ?_)
       refine ⟨congrArg Value.bool (Bool.eq_iff_iff.2 ?_), (Evo.refl [] w)⟩
       simp only [decide_eq_true_eq, Bool.false_eq_true, Bool.true_eq_false, true_iff, false_iff, eq_self, iff_true]; unfold wordI; omega
      ·skip
       refine wl_g ?_
       refine wl_m ?_
       refine wl_g ?_
       refine wl_val rfl (ex_eql rfl rfl) ?_
       refine wl_pf ?_
       refine wl_a ?_
       refine wl_nil (nrm_then ?_)
       refine cw_ret (body_ret1 rfl rfl ?_)
       refine ⟨congrArg Value.bool (Bool.eq_iff_iff.2 ?_), (Evo.refl [] w)⟩
       simp only [decide_eq_true_eq, Bool.false_eq_true, Bool.true_eq_false, true_iff, false_iff, eq_self, iff_true]; unfold wordI; omega
     ·skip
      refine wl_n ?_
      refine wl_n ?_
      refine wl_g ?_
      refine wl_pf ?_
      refine wl_pf ?_
      refine wl_m ?_
      refine wl_g ?_
      refine wl_m ?_
      refine wl_g ?_
      refine wl_val rfl (ex_eql rfl rfl) ?_
      refine wl_pf ?_
      refine wl_a ?_
      refine wl_nil (nrm_then ?_)
      refine cw_ret (body_ret1 rfl rfl ?_)
      refine ⟨congrArg Value.bool (Bool.eq_iff_iff.2 ?_), (Evo.refl [] w)⟩
      simp only [decide_eq_true_eq, Bool.false_eq_true, Bool.true_eq_false, true_iff, false_iff, eq_self, iff_true]; unfold wordI; omega
  ·skip
   refine wl_n ?_
   refine wl_n ?_
   refine wl_pf ?_
   refine wl_m ?_
   refine wl_g ?_
   refine wl_m ?_
   refine wl_g ?_
   refine wl_val rfl (ex_geq rfl rfl) ?_
   refine wl_g ?_
   refine wl_m ?_
   refine wl_split (t := 12) rfl (fun hs12 => ?_) (fun hs12 => ?_)
   ·skip
    refine wl_g ?_
    refine wl_m ?_
    refine wl_g ?_
    refine wl_val rfl (ex_leq rfl rfl) ?_
    refine wl_g ?_
    refine wl_pt ?_
    refine wl_pf ?_
    refine wl_m ?_
    refine wl_split (t := 17) rfl (fun hs17 => ?_) (fun hs17 => ?_)
    ·skip
     refine wl_n ?_
     refine wl_n ?_
     refine wl_n ?_
     refine wl_u ?_
     refine wl_u ?_
     refine wl_n ?_
     refine wl_pt ?_
     refine wl_m ?_
     refine wl_n ?_
     refine wl_n ?_
     refine wl_pt ?_
     refine wl_a ?_
     refine wl_nil (nrm_then ?_)
     refine cw_ret (body_ret1 rfl rfl ?_)
     refine ⟨congrArg Value.bool (Bool.eq_iff_iff.2 ?_), (Evo.refl [] w)⟩
     simp only [decide_eq_true_eq, Bool.false_eq_true, Bool.true_eq_false, true_iff, false_iff, eq_self, iff_true]; unfold wordI; omega
    ·skip
     refine wl_g ?_
     refine wl_m ?_
     refine wl_g ?_
     refine wl_val rfl (ex_geq rfl rfl) ?_
     refine wl_g ?_
     refine wl_m ?_
     refine wl_split (t := 20) rfl (fun hs20 => ?_) (fun hs20 => ?_)
     ·skip
      refine wl_g ?_
      refine wl_m ?_
      refine wl_g ?_
      refine wl_val rfl (ex_leq rfl rfl) ?_
      refine wl_g ?_
      refine wl_pt ?_
      refine wl_pf ?_
      refine wl_m ?_
      refine wl_split (t := 25) rfl (fun hs25 => ?_) (fun hs25 => ?_)
      ·skip
       refine wl_n ?_
       refine wl_n ?_
       refine wl_pt ?_
       refine wl_a ?_
       refine wl_nil (nrm_then ?_)
       refine cw_ret (body_ret1 rfl rfl ?_)
       refine ⟨congrArg Value.bool (Bool.eq_iff_iff.2 ?_), (Evo.refl [] w)⟩
       simp only [decide_eq_true_eq, Bool.false_eq_true, Bool.true_eq_false, true_iff, false_iff, eq_self, iff_true]; unfold wordI; omega
      ·skip
       refine wl_g ?_
       refine wl_m ?_
       refine wl_g ?_
       refine wl_val rfl (ex_eql rfl rfl) ?_
       refine wl_pf ?_
       refine wl_a ?_
       refine wl_nil (nrm_then ?_)
       refine cw_ret (body_ret1 rfl rfl ?_)
       refine ⟨congrArg Value.bool (Bool.eq_iff_iff.2 ?_), (Evo.refl [] w)⟩
       simp only [decide_eq_true_eq, Bool.false_eq_true, Bool.true_eq_false, true_iff, false_iff, eq_self, iff_true]; unfold wordI; omega
     ·skip
      refine wl_n ?_
      refine wl_n ?_
      refine wl_g ?_
      refine wl_pf ?_
      refine wl_pf ?_
      refine wl_m ?_
      refine wl_g ?_
      refine wl_m ?_
      refine wl_g ?_
      refine wl_val rfl (ex_eql rfl rfl) ?_
      refine wl_pf ?_
      refine wl_a ?_
      refine wl_nil (nrm_then ?_)
      refine cw_ret (body_ret1 rfl rfl ?_)
      refine ⟨congrArg Value.bool (Bool.eq_iff_iff.2 ?_), (Evo.refl [] w)⟩
      simp only [decide_eq_true_eq, Bool.false_eq_true, Bool.true_eq_false, true_iff, false_iff, eq_self, iff_true]; unfold wordI; omega
   ·skip
    refine wl_n ?_
    refine wl_n ?_
    refine wl_g ?_
    refine wl_pf ?_
    refine wl_pf ?_
    refine wl_m ?_
    refine wl_g ?_
    refine wl_m ?_
    refine wl_g ?_
    refine wl_val rfl (ex_geq rfl rfl) ?_
    refine wl_g ?_
    refine wl_m ?_
    refine wl_split (t := 20) rfl (fun hs20 => ?_) (fun hs20 => ?_)
    ·skip
     refine wl_g ?_
     refine wl_m ?_
     refine wl_g ?_
     refine wl_val rfl (ex_leq rfl rfl) ?_
     refine wl_g ?_
     refine wl_pt ?_
     refine wl_pf ?_
     refine wl_m ?_
     refine wl_split (t := 25) rfl (fun hs25 => ?_) (fun hs25 => ?_)
     ·skip
      refine wl_n ?_
      refine wl_n ?_
      refine wl_pt ?_
      refine wl_a ?_
      refine wl_nil (nrm_then ?_)
      refine cw_ret (body_ret1 rfl rfl ?_)
      refine ⟨congrArg Value.bool (Bool.eq_iff_iff.2 ?_), (Evo.refl [] w)⟩
      simp only [decide_eq_true_eq, Bool.false_eq_true, Bool.true_eq_false, true_iff, false_iff, eq_self, iff_true]; unfold wordI; omega
     ·skip
      refine wl_g ?_
      refine wl_m ?_
      refine wl_g ?_
      refine wl_val rfl (ex_eql rfl rfl) ?_
      refine wl_pf ?_
      refine wl_a ?_
      refine wl_nil (nrm_then ?_)
      refine cw_ret (body_ret1 rfl rfl ?_)
      refine ⟨congrArg Value.bool (Bool.eq_iff_iff.2 ?_), (Evo.refl [] w)⟩
      simp only [decide_eq_true_eq, Bool.false_eq_true, Bool.true_eq_false, true_iff, false_iff, eq_self, iff_true]; unfold wordI; omega
    ·skip
     refine wl_n ?_
     refine wl_n ?_
     refine wl_g ?_
     refine wl_pf ?_
     refine wl_pf ?_
     refine wl_m ?_
     refine wl_g ?_
     refine wl_m ?_
     refine wl_g ?_
     refine wl_val rfl (ex_eql rfl rfl) ?_
     refine wl_pf ?_
     refine wl_a ?_
     refine wl_nil (nrm_then ?_)
     refine cw_ret (body_ret1 rfl rfl ?_)
     refine ⟨congrArg Value.bool (Bool.eq_iff_iff.2 ?_), (Evo.refl [] w)⟩
     simp only [decide_eq_true_eq, Bool.false_eq_true, Bool.true_eq_false, true_iff, false_iff, eq_self, iff_true]; unfold wordI; omega

theorem in_ok {X : List Nat} {w : World} {v : Value} {l : List (Int × Int)} (c : Int) (hs : RSl 2 RRg X w v l) (hl : l.length ≤ 140737488351232) : Calls Try.prog 61 #[.int .i32 c, v] w (Ret fun v w' => ∃ b, v = .bool b ∧ (b = true ↔ InR c l) ∧ Evo [] w w') := by
  obtain ⟨ra, rc, rfl, hrc, e2⟩ := hs
  refine calls_of_cw (N := 28) Try.func61 rfl rfl rfl ?_
  refine cw_seq ?_
  refine cw_region ?_
  refine wl_a ?_
  refine wl_nil (nrm_then ?_)
  refine cw_seq ?_
  refine cw_seq ?_
  refine cw_region ?_
  refine wl_a ?_
  refine wl_nil (nrm_then ?_)
  refine cw_block ?_
  refine cw_loop (α := Nat) (0) (fun k => [(5, .int .i64 (k : Nat))]) [(0, _), (1, _)] (fun k wr => Evo [] w wr ∧ (k ≤ l.length ∧ ∀ i (h : i < l.length), i < k → ¬ (l[i].1 ≤ c ∧ c ≤ l[i].2))) (fun k => l.length - k) ⟨rfl, trivial⟩ ⟨rfl, rfl, trivial⟩ ⟨Evo.refl _ _, ⟨Nat.zero_le _, fun i _ h => by omega⟩⟩ ?_
  rintro k wr1 ⟨hV2, ⟨hk, hno⟩⟩
  show CW _ _ _ _ [(5, _), (0, _), (1, _)] _
  have hE3 := (Evo.refl [] w).then hV2
  refine cw_seq ?_
  refine cw_seq ?_
  refine cw_region ?_
  refine wl_m ?_
  refine wl_m ?_
  refine wl_val rfl (ex_len_slice rfl Try.underlying22 rfl) ?_
  refine wl_val rfl (ex_lss rfl rfl) ?_
  refine wl_nil (nrm_then ?_)
  refine cw_if rfl (fun hc9 => ?_) (fun hc9 => ?_)
  ·skip
   have hk' : k < l.length := by omega
   obtain ⟨bR, oR, vsR, haR, hbR, -, hcR, rfl⟩ := e2 k hk'
   refine cw_skip (nrm_then ?_)
   refine cw_seq ?_
   refine cw_block ?_
   refine cw_seq ?_
   refine cw_region ?_
   refine wl_m ?_
   refine wl_m ?_
   refine wl_val rfl (ex_indexAddr (n := k) (by rw [haR]; rfl) rfl Try.elem22 (by omega)) ?_
   refine wl_val rfl (ex_fieldAddr rfl Try.fld51_0) ?_
   refine wl_val rfl (ex_load1 rfl Try.agg21 ((hcR.evo hE3 (by simp)) 0 _ rfl)) ?_
   refine wl_m ?_
   refine wl_val rfl (ex_leq rfl rfl) ?_
   refine wl_m ?_
   refine wl_split (t := 19) rfl (fun hs19 => ?_) (fun hs19 => ?_)
   ·skip
    refine wl_g ?_
    refine wl_m ?_
    refine wl_g ?_
    refine wl_m ?_
    refine wl_g ?_
    refine wl_m ?_
    refine wl_g ?_
    refine wl_val rfl (ex_indexAddr (n := k) (by rw [haR]; rfl) rfl Try.elem22 (by omega)) ?_
    refine wl_g ?_
    refine wl_val rfl (ex_fieldAddr rfl Try.fld51_1) ?_
    refine wl_g ?_
    refine wl_val rfl (ex_load1 rfl Try.agg21 ((hcR.evo hE3 (by simp)) 1 _ rfl)) ?_
    refine wl_g ?_
    refine wl_val rfl (ex_leq rfl rfl) ?_
    refine wl_pt ?_
    refine wl_nil (nrm_then ?_)
    refine cw_if rfl (fun hc27 => ?_) (fun hc27 => ?_)
    ·skip
     refine cw_seq ?_
     refine cw_region ?_
     refine wl_a ?_
     refine wl_nil (nrm_then ?_)
     refine cw_ret (ret_block (ret_then (ret_then (ret_block (ret_then (body_ret1 rfl rfl ?_))))))
     exact ⟨true, rfl, by simp only [true_iff]; exact ⟨l[k], List.getElem_mem hk', by omega, by omega⟩, hE3⟩
    ·skip
     refine cw_skip (nrm_block (nrm_then ?_))
     refine cw_region ?_
     refine wl_m ?_
     refine wl_val rfl (ex_add_i64 rfl rfl (by omega) (by omega)) ?_
     refine wl_a ?_
     refine wl_nil (nrm_same ?_)
     refine ⟨k + 1, ?_, ⟨rfl, trivial⟩, ⟨rfl, rfl, trivial⟩, hV2, ?_⟩
     · omega
     ·skip
      refine ⟨by omega, fun i hi hir hh => ?_⟩
      by_cases e : i < k
      · exact hno i hi e hh
      · obtain rfl : i = k := by omega
        omega
   ·skip
    refine wl_n ?_
    refine wl_n ?_
    refine wl_n ?_
    refine wl_n ?_
    refine wl_n ?_
    refine wl_n ?_
    refine wl_n ?_
    refine wl_pf ?_
    refine wl_nil (nrm_then ?_)
    refine cw_false rfl ?_
    refine cw_skip (nrm_block (nrm_then ?_))
    refine cw_region ?_
    refine wl_m ?_
    refine wl_val rfl (ex_add_i64 rfl rfl (by omega) (by omega)) ?_
    refine wl_a ?_
    refine wl_nil (nrm_same ?_)
    refine ⟨k + 1, ?_, ⟨rfl, trivial⟩, ⟨rfl, rfl, trivial⟩, hV2, ?_⟩
    · omega
    ·skip
     refine ⟨by omega, fun i hi hir hh => ?_⟩
     by_cases e : i < k
     · exact hno i hi e hh
     · obtain rfl : i = k := by omega
       omega
  ·skip
   refine cw_exit (ex_then (ex_then (ex_here (nrm_then ?_))))
   refine cw_seq ?_
   refine cw_region ?_
   refine wl_a ?_
   refine wl_nil (nrm_then ?_)
   refine cw_ret (body_ret1 rfl rfl ?_)
   exact ⟨false, rfl, by simp only [Bool.false_eq_true, false_iff]; exact not_inR (fun i hi => hno i hi (by omega)), hE3⟩


theorem own_i32 {w : World} {e : TypeId} {a : Option Addr} {n c : Nat} {ys : List Int} {ob : Option Nat} (h : OwnS w e 1 a n c (i32s ys) ob) (h0 : 0 < n) : ∃ g, ob = some g ∧ a = some ⟨g, 0, none⟩ ∧ ∀ k (hk : k < ys.length), w.cell? ⟨g, 0 + k * 1, none⟩ = some (.int .i32 ys[k]) := by
  obtain ⟨g, hg, ha, hc⟩ := h.cells h0
  refine ⟨g, hg, ha, fun k hk => ?_⟩
  rw [Nat.mul_one]
  exact hc k _ (by simp [hk])
theorem own_bools {w : World} {e : TypeId} {a : Option Addr} {n c : Nat} {ys : List Bool} {ob : Option Nat} (h : OwnS w e 1 a n c (bvs ys) ob) (h0 : 0 < n) : ∃ g, ob = some g ∧ a = some ⟨g, 0, none⟩ ∧ ∀ k v, (bvs ys)[k]? = some v → w.cell? ⟨g, 0 + k * 1, none⟩ = some v := by
  obtain ⟨g, hg, ha, hc⟩ := h.cells h0
  exact ⟨g, hg, ha, fun k v hv => by rw [Nat.mul_one]; exact hc k v hv⟩


theorem neq_any {a b : Bool} {p q : Prop} (ha : a = true ↔ p) (hb : b = true ↔ q) : (!(a == b)) = true ↔ ¬ (p ↔ q) := by
  rw [← ha, ← hb]; cases a <;> cases b <;> simp
theorem bef_pos {rs : List Int} {i : Nat} (h : 0 < i) (hm : i - 1 < rs.length) : Bef rs i ↔ wordI rs[i - 1] := by
  unfold Bef
  rw [List.getElem?_eq_getElem hm]
  constructor
  · rintro ⟨-, c, hc, h⟩; cases hc; exact h
  · exact fun h1 => ⟨h, _, rfl, h1⟩
theorem bef_zero {rs : List Int} {i : Nat} (h : i = 0) : ¬ Bef rs i := fun ⟨h1, _⟩ => by omega
theorem aft_lt {rs : List Int} {i : Nat} (hm : i < rs.length) : Aft rs i ↔ wordI rs[i] := by
  unfold Aft
  rw [List.getElem?_eq_getElem hm]
  constructor
  · rintro ⟨c, hc, h⟩; cases hc; exact h
  · exact fun h1 => ⟨_, rfl, h1⟩
theorem aft_end {rs : List Int} {i : Nat} (h : rs.length ≤ i) : ¬ Aft rs i := fun ⟨c, h1, _⟩ => by rw [List.getElem?_eq_none h] at h1; cases h1
theorem ten_at {rs : List Int} {i : Nat} (hm : i < rs.length) : rs[i]? = some 10 ↔ rs[i] = 10 := by rw [List.getElem?_eq_getElem hm, Option.some.injEq]

theorem place_ok {w : World} {a : Option Addr} {c i : Nat} {rs : List Int} {ob : Option Nat} (kind : Int) (h8 : 8 ≤ kind) (h13 : kind ≤ 13) (hO : OwnS w 21 1 a rs.length c (i32s rs) ob) (hi : i ≤ rs.length) (hN : rs.length ≤ 1000000) :
    Calls Try.prog 65 #[.int .i64 kind, .slice a rs.length c, .int .i64 (i : Nat)] w (Ret fun v w' => ∃ b, v = .bool b ∧ (b = true ↔ Plc rs kind i) ∧ Evo [] w w') := by
  have hget : ∀ k (hk : k < rs.length), ∃ g, a = some ⟨g, 0, none⟩ ∧ w.cell? ⟨g, 0 + k * 1, none⟩ = some (.int .i32 rs[k]) := fun k hk => by obtain ⟨g, -, h1, h2⟩ := own_i32 hO (by omega); exact ⟨g, h1, h2 k hk⟩
  refine calls_of_cw (N := 71) Try.func65 rfl rfl rfl ?_
  refine cw_seq ?_
  refine cw_region ?_
  refine wl_a ?_
  refine wl_nil (nrm_then ?_)
  refine cw_seq ?_
  refine cw_cut (α := Bool) (fun z => [(7, .bool z)]) [(0, _), (1, _), (2, _), (6, _)] (fun z wr => Evo [] w wr ∧ (z = true ↔ ¬ (Bef rs i ↔ Aft rs i))) ⟨rfl, rfl, rfl, rfl, trivial⟩ ?_ ?_
  ·skip
   refine cw_region ?_
   refine wl_m ?_
   refine wl_val rfl (ex_gtr rfl rfl) ?_
   refine wl_m ?_
   refine wl_split (t := 10) rfl (fun hs10 => ?_) (fun hs10 => ?_)
   ·skip
    refine wl_g ?_
    refine wl_m ?_
    refine wl_g ?_
    refine wl_m ?_
    refine wl_g ?_
    refine wl_val rfl (ex_sub_i64 rfl rfl (by omega) (by omega)) ?_
    refine wl_g ?_
    have hm1 : i - 1 < rs.length := by omega
    obtain ⟨g1, hg1a, hg1⟩ := hget (i - 1) hm1
    refine wl_val rfl (ex_indexAddrZ (n := i - 1) (by rw [hg1a]; rfl) rfl (by omega) Try.elem58 hm1) ?_
    refine wl_g ?_
    refine wl_val rfl (ex_load1 rfl Try.agg21 (((Evo.refl [] w)).cell hg1 (by simp))) ?_
    refine wl_g ?_
    refine wl_call1 (vs := [_]) Try.goes83 rfl (wordRune9_ok rs[i - 1]) rfl ?_
    rintro _ w1 ⟨rfl, hw2⟩
    have hE3 := (Evo.refl [] w).then hw2
    have hE4 := (Evo.refl [] w).then hw2
    refine wl_pt ?_
    refine wl_m ?_
    refine wl_m ?_
    refine wl_val rfl (ex_len_slice rfl Try.underlying58 rfl) ?_
    refine wl_val rfl (ex_lss rfl rfl) ?_
    refine wl_m ?_
    refine wl_split (t := 22) rfl (fun hs22 => ?_) (fun hs22 => ?_)
    ·skip
     refine wl_g ?_
     refine wl_m ?_
     refine wl_g ?_
     refine wl_m ?_
     refine wl_g ?_
     have hm2 : i < rs.length := by omega
     obtain ⟨g2, hg2a, hg2⟩ := hget (i) hm2
     refine wl_val rfl (ex_indexAddrZ (n := i) (by rw [hg2a]; rfl) rfl (by omega) Try.elem58 hm2) ?_
     refine wl_g ?_
     refine wl_val rfl (ex_load1 rfl Try.agg21 ((hE3).cell hg2 (by simp))) ?_
     refine wl_g ?_
     refine wl_call1 (vs := [_]) Try.goes83 rfl (wordRune9_ok rs[i]) rfl ?_
     rintro _ w5 ⟨rfl, hw6⟩
     have hE7 := hE3.then hw6
     have hE8 := hE4.then hw6
     refine wl_pt ?_
     refine wl_val rfl (ex_neqB rfl rfl Try.underlying4) ?_
     refine wl_a ?_
     refine wl_nil (nrm_same ?_)
     refine ⟨_, ⟨rfl, trivial⟩, ⟨rfl, rfl, rfl, rfl, trivial⟩, hE8, ?_⟩
     exact neq_any (by rw [decide_eq_true_eq]; exact (bef_pos (by omega) hm1).symm) (by rw [decide_eq_true_eq]; exact (aft_lt hm2).symm)
    ·skip
     refine wl_n ?_
     refine wl_n ?_
     refine wl_n ?_
     refine wl_n ?_
     refine wl_n ?_
     refine wl_pf ?_
     refine wl_val rfl (ex_neqB rfl rfl Try.underlying4) ?_
     refine wl_a ?_
     refine wl_nil (nrm_same ?_)
     refine ⟨_, ⟨rfl, trivial⟩, ⟨rfl, rfl, rfl, rfl, trivial⟩, hE4, ?_⟩
     exact neq_any (by rw [decide_eq_true_eq]; exact (bef_pos (by omega) hm1).symm) (by simp only [Bool.false_eq_true, false_iff]; exact aft_end (by omega))
   ·skip
    refine wl_n ?_
    refine wl_n ?_
    refine wl_n ?_
    refine wl_n ?_
    refine wl_n ?_
    refine wl_n ?_
    refine wl_pf ?_
    refine wl_m ?_
    refine wl_m ?_
    refine wl_val rfl (ex_len_slice rfl Try.underlying58 rfl) ?_
    refine wl_val rfl (ex_lss rfl rfl) ?_
    refine wl_m ?_
    refine wl_split (t := 22) rfl (fun hs22 => ?_) (fun hs22 => ?_)
    ·skip
     refine wl_g ?_
     refine wl_m ?_
     refine wl_g ?_
     refine wl_m ?_
     refine wl_g ?_
     have hm2 : i < rs.length := by omega
     obtain ⟨g2, hg2a, hg2⟩ := hget (i) hm2
     refine wl_val rfl (ex_indexAddrZ (n := i) (by rw [hg2a]; rfl) rfl (by omega) Try.elem58 hm2) ?_
     refine wl_g ?_
     refine wl_val rfl (ex_load1 rfl Try.agg21 (((Evo.refl [] w)).cell hg2 (by simp))) ?_
     refine wl_g ?_
     refine wl_call1 (vs := [_]) Try.goes83 rfl (wordRune9_ok rs[i]) rfl ?_
     rintro _ w9 ⟨rfl, hw10⟩
     have hE11 := (Evo.refl [] w).then hw10
     have hE12 := (Evo.refl [] w).then hw10
     refine wl_pt ?_
     refine wl_val rfl (ex_neqB rfl rfl Try.underlying4) ?_
     refine wl_a ?_
     refine wl_nil (nrm_same ?_)
     refine ⟨_, ⟨rfl, trivial⟩, ⟨rfl, rfl, rfl, rfl, trivial⟩, hE12, ?_⟩
     exact neq_any (by simp only [Bool.false_eq_true, false_iff]; exact bef_zero (by omega)) (by rw [decide_eq_true_eq]; exact (aft_lt hm2).symm)
    ·skip
     refine wl_n ?_
     refine wl_n ?_
     refine wl_n ?_
     refine wl_n ?_
     refine wl_n ?_
     refine wl_pf ?_
     refine wl_val rfl (ex_neqB rfl rfl Try.underlying4) ?_
     refine wl_a ?_
     refine wl_nil (nrm_same ?_)
     refine ⟨_, ⟨rfl, trivial⟩, ⟨rfl, rfl, rfl, rfl, trivial⟩, (Evo.refl [] w), ?_⟩
     exact neq_any (by simp only [Bool.false_eq_true, false_iff]; exact bef_zero (by omega)) (by simp only [Bool.false_eq_true, false_iff]; exact aft_end (by omega))
  ·skip
   rintro z w13 ⟨hV14, hz⟩
   refine nrm_then ?_
   show CW _ _ _ _ [(7, _), (0, _), (1, _), (2, _), (6, _)] _
   have hE15 := (Evo.refl [] w).then hV14
   refine cw_seq ?_
   refine cw_seq ?_
   refine cw_region ?_
   refine wl_m ?_
   refine wl_nil (nrm_then ?_)
   refine cw_block ?_
   refine cw_seq ?_
   refine cw_region ?_
   refine wl_val rfl (ex_eql rfl rfl) ?_
   refine wl_a ?_
   refine wl_nil (nrm_then ?_)
   refine cw_if rfl (fun hc31 => ?_) (fun hc31 => ?_)
   ·skip
    refine cw_seq ?_
    refine cw_region ?_
    refine wl_m ?_
    refine wl_val rfl (ex_eql rfl rfl) ?_
    refine wl_a ?_
    refine wl_nil (nrm_then ?_)
    refine cw_ret (ret_block (ret_then (body_ret1 rfl rfl ?_)))
    refine ⟨_, rfl, ?_, hE15⟩
    have hkd : kind = 8 := by omega
    subst hkd
    rw [decide_eq_true_eq]; unfold Plc; simp
   ·skip
    refine cw_seq ?_
    refine cw_region ?_
    refine wl_val rfl (ex_eql rfl rfl) ?_
    refine wl_a ?_
    refine wl_nil (nrm_then ?_)
    refine cw_if rfl (fun hc35 => ?_) (fun hc35 => ?_)
    ·skip
     refine cw_seq ?_
     refine cw_region ?_
     refine wl_m ?_
     refine wl_m ?_
     refine wl_val rfl (ex_len_slice rfl Try.underlying58 rfl) ?_
     refine wl_val rfl (ex_eql rfl rfl) ?_
     refine wl_a ?_
     refine wl_nil (nrm_then ?_)
     refine cw_ret (ret_block (ret_then (body_ret1 rfl rfl ?_)))
     refine ⟨_, rfl, ?_, hE15⟩
     have hkd : kind = 9 := by omega
     subst hkd
     rw [decide_eq_true_eq]; unfold Plc; simp; omega
    ·skip
     refine cw_seq ?_
     refine cw_region ?_
     refine wl_val rfl (ex_eql rfl rfl) ?_
     refine wl_a ?_
     refine wl_nil (nrm_then ?_)
     refine cw_if rfl (fun hc41 => ?_) (fun hc41 => ?_)
     ·skip
      refine cw_seq ?_
      refine cw_region ?_
      refine wl_m ?_
      refine wl_val rfl (ex_eql rfl rfl) ?_
      refine wl_m ?_
      refine wl_split (t := 45) rfl (fun hs45 => ?_) (fun hs45 => ?_)
      ·skip
       refine wl_n ?_
       refine wl_n ?_
       refine wl_n ?_
       refine wl_n ?_
       refine wl_n ?_
       refine wl_n ?_
       refine wl_pt ?_
       refine wl_a ?_
       refine wl_nil (nrm_then ?_)
       refine cw_ret (ret_block (ret_then (body_ret1 rfl rfl ?_)))
       refine ⟨_, rfl, ?_, hE15⟩
       have hkd : kind = 10 := by omega
       subst hkd
       rw [show (true = true) ↔ True from by simp]
       unfold Plc
       simp only [show ((10:Int) = 8) = False from by simp, show ((10:Int) = 9) = False from by simp, show ((10:Int) = 11) = False from by simp, show ((10:Int) = 12) = False from by simp, show ((10:Int) = 13) = False from by simp, false_and, false_or, or_false, true_and]
       first | (rw [ten_at hm3]; omega) | (constructor; (intro _; left; omega); (intro _; trivial))
      ·skip
       refine wl_g ?_
       refine wl_m ?_
       refine wl_g ?_
       refine wl_m ?_
       refine wl_g ?_
       refine wl_val rfl (ex_sub_i64 rfl rfl (by omega) (by omega)) ?_
       refine wl_g ?_
       have hm3 : i - 1 < rs.length := by omega
       obtain ⟨g3, hg3a, hg3⟩ := hget (i - 1) hm3
       refine wl_val rfl (ex_indexAddrZ (n := i - 1) (by rw [hg3a]; rfl) rfl (by omega) Try.elem58 hm3) ?_
       refine wl_g ?_
       refine wl_val rfl (ex_load1 rfl Try.agg21 ((hE15).cell hg3 (by simp))) ?_
       refine wl_g ?_
       refine wl_val rfl (ex_eql rfl rfl) ?_
       refine wl_pf ?_
       refine wl_a ?_
       refine wl_nil (nrm_then ?_)
       refine cw_ret (ret_block (ret_then (body_ret1 rfl rfl ?_)))
       refine ⟨_, rfl, ?_, hE15⟩
       have hkd : kind = 10 := by omega
       subst hkd
       rw [decide_eq_true_eq]
       unfold Plc
       simp only [show ((10:Int) = 8) = False from by simp, show ((10:Int) = 9) = False from by simp, show ((10:Int) = 11) = False from by simp, show ((10:Int) = 12) = False from by simp, show ((10:Int) = 13) = False from by simp, false_and, false_or, or_false, true_and]
       first | (rw [ten_at hm3]; omega) | (constructor; (intro _; left; omega); (intro _; trivial))
     ·skip
      refine cw_seq ?_
      refine cw_region ?_
      refine wl_val rfl (ex_eql rfl rfl) ?_
      refine wl_a ?_
      refine wl_nil (nrm_then ?_)
      refine cw_if rfl (fun hc53 => ?_) (fun hc53 => ?_)
      ·skip
       refine cw_seq ?_
       refine cw_region ?_
       refine wl_m ?_
       refine wl_m ?_
       refine wl_val rfl (ex_len_slice rfl Try.underlying58 rfl) ?_
       refine wl_val rfl (ex_eql rfl rfl) ?_
       refine wl_m ?_
       refine wl_split (t := 59) rfl (fun hs59 => ?_) (fun hs59 => ?_)
       ·skip
        refine wl_n ?_
        refine wl_n ?_
        refine wl_n ?_
        refine wl_n ?_
        refine wl_n ?_
        refine wl_pt ?_
        refine wl_a ?_
        refine wl_nil (nrm_then ?_)
        refine cw_ret (ret_block (ret_then (body_ret1 rfl rfl ?_)))
        refine ⟨_, rfl, ?_, hE15⟩
        have hkd : kind = 11 := by omega
        subst hkd
        rw [show (true = true) ↔ True from by simp]
        unfold Plc
        simp only [show ((11:Int) = 8) = False from by simp, show ((11:Int) = 9) = False from by simp, show ((11:Int) = 10) = False from by simp, show ((11:Int) = 12) = False from by simp, show ((11:Int) = 13) = False from by simp, false_and, false_or, or_false, true_and]
        first | (rw [ten_at hm4]; omega) | (constructor; (intro _; left; omega); (intro _; trivial))
       ·skip
        refine wl_g ?_
        refine wl_m ?_
        refine wl_g ?_
        refine wl_m ?_
        refine wl_g ?_
        have hm4 : i < rs.length := by omega
        obtain ⟨g4, hg4a, hg4⟩ := hget (i) hm4
        refine wl_val rfl (ex_indexAddrZ (n := i) (by rw [hg4a]; rfl) rfl (by omega) Try.elem58 hm4) ?_
        refine wl_g ?_
        refine wl_val rfl (ex_load1 rfl Try.agg21 ((hE15).cell hg4 (by simp))) ?_
        refine wl_g ?_
        refine wl_val rfl (ex_eql rfl rfl) ?_
        refine wl_pf ?_
        refine wl_a ?_
        refine wl_nil (nrm_then ?_)
        refine cw_ret (ret_block (ret_then (body_ret1 rfl rfl ?_)))
        refine ⟨_, rfl, ?_, hE15⟩
        have hkd : kind = 11 := by omega
        subst hkd
        rw [decide_eq_true_eq]
        unfold Plc
        simp only [show ((11:Int) = 8) = False from by simp, show ((11:Int) = 9) = False from by simp, show ((11:Int) = 10) = False from by simp, show ((11:Int) = 12) = False from by simp, show ((11:Int) = 13) = False from by simp, false_and, false_or, or_false, true_and]
        first | (rw [ten_at hm4]; omega) | (constructor; (intro _; left; omega); (intro _; trivial))
      ·skip
       refine cw_seq ?_
       refine cw_region ?_
       refine wl_val rfl (ex_eql rfl rfl) ?_
       refine wl_a ?_
       refine wl_nil (nrm_then ?_)
       refine cw_if rfl (fun hc66 => ?_) (fun hc66 => ?_)
       ·skip
        refine cw_seq ?_
        refine cw_region ?_
        refine wl_m ?_
        refine wl_a ?_
        refine wl_nil (nrm_then ?_)
        refine cw_ret (ret_block (ret_then (body_ret1 rfl rfl ?_)))
        refine ⟨_, rfl, ?_, hE15⟩
        have hkd : kind = 12 := by omega
        subst hkd
        rw [hz]; unfold Plc; simp
       ·skip
        refine cw_skip (nrm_block (nrm_then ?_))
        refine cw_seq ?_
        refine cw_region ?_
        refine wl_m ?_
        refine wl_val rfl (ex_notb rfl) ?_
        refine wl_a ?_
        refine wl_nil (nrm_then ?_)
        refine cw_ret (body_ret1 rfl rfl ?_)
        refine ⟨_, rfl, ?_, hE15⟩
        have hkd : kind = 13 := by omega
        subst hkd
        rw [show ((!z) = true) ↔ ¬ (z = true) from by cases z <;> simp, hz, Classical.not_not]; unfold Plc; simp


/-- A slice of yes and no that came in. -/
theorem rsl_bl {X : List Nat} {w : World} {v : Value} {n : Nat} {f : Nat → Prop} (h : RSl 1 RBool X w v (bl n f)) : ∃ a c, v = .slice a n c ∧ ∀ k, k < n → ∃ b o, a = some ⟨b, o, none⟩ ∧ b ∉ X ∧ w.cell? ⟨b, o + k * 1, none⟩ = some (.bool (tf (f k))) := by
  obtain ⟨a, c, hv, hc, h1⟩ := h
  rw [bl_len] at hv
  refine ⟨a, c, hv, fun k hk => ?_⟩
  obtain ⟨b, o, vs, ha, hb, hl, hcs, hr⟩ := h1 k (by rw [bl_len]; exact hk)
  refine ⟨b, o, ha, hb, hcs 0 _ ?_⟩
  have hk2 : k < (bl n f).length := by rw [bl_len]; exact hk
  have hr' : vs = [.bool (bl n f)[k]] := hr
  have hg := bl_get (f := f) hk
  rw [List.getElem?_eq_getElem (by rw [bl_len]; exact hk), Option.some.injEq] at hg
  rw [hr', hg]; rfl
structure AdI (w wr : World) (n : Nat) (f g : Nat → Prop) (a : Option Addr) (c : Nat) (ob : Option Nat) (k : Nat) (z : Bool) : Prop where
  le : k ≤ n
  own : OwnS wr 4 1 a n c (bvs (bl n (fun j => f j ∨ (j < k ∧ g j)))) ob
  gr : z = true ↔ ∃ j, j < k ∧ g j ∧ ¬ f j
theorem ex_lt_succ {p : Nat → Prop} {k : Nat} : (∃ j, j < k + 1 ∧ p j) ↔ (∃ j, j < k ∧ p j) ∨ p k := by
  constructor
  · rintro ⟨j, h1, h2⟩
    by_cases e : j = k
    · subst e; exact .inr h2
    · exact .inl ⟨j, by omega, h2⟩
  · rintro (⟨j, h1, h2⟩ | h)
    · exact ⟨j, by omega, h2⟩
    · exact ⟨k, by omega, h⟩

theorem add_ok {w : World} {n : Nat} {f g : Nat → Prop} {a : Option Addr} {c : Nat} {ob : Option Nat} {v : Value} (hO : OwnS w 4 1 a n c (bvs (bl n f)) ob) (hm : RSl 1 RBool ob.toList w v (bl n g)) (hn : n ≤ 1000000) :
    Calls Try.prog 63 #[.slice a n c, v] w (Ret fun r w' => Evo ob.toList w w' ∧ OwnS w' 4 1 a n c (bvs (bl n (fun j => f j ∨ g j))) ob ∧ ∃ b, r = .bool b ∧ (b = true ↔ ∃ j, j < n ∧ g j ∧ ¬ f j)) := by
  obtain ⟨ma, mc, rfl, hmc⟩ := rsl_bl hm
  refine calls_of_cw (N := 41) Try.func63 rfl rfl rfl ?_
  refine cw_seq ?_
  refine cw_region ?_
  refine wl_a ?_
  refine wl_nil (nrm_then ?_)
  refine cw_seq ?_
  refine cw_region ?_
  refine wl_a ?_
  refine wl_nil (nrm_then ?_)
  refine cw_seq ?_
  refine cw_seq ?_
  refine cw_region ?_
  refine wl_a ?_
  refine wl_nil (nrm_then ?_)
  refine cw_block ?_
  refine cw_loop (α := Nat × Bool) ((0, false)) (fun x => [(6, .int .i64 (x.1 : Nat)), (5, .bool x.2)]) [(0, _), (1, _), (4, _)] (fun x wr => Evo ob.toList w wr ∧ (AdI w wr n f g a c ob x.1 x.2)) (fun x => n - x.1) ⟨rfl, rfl, trivial⟩ ⟨rfl, rfl, rfl, trivial⟩ ⟨(Evo.refl ob.toList w), ⟨Nat.zero_le _, by rw [bl_congr (g := f) (fun j _ => by simp)]; exact hO, by simp⟩⟩ ?_
  rintro ⟨k, z⟩ wr1 ⟨hV2, ⟨hk, hown, hgr⟩⟩
  show CW _ _ _ _ [(6, .int .i64 (k : Nat)), (5, .bool z), (0, _), (1, _), (4, _)] _
  try dsimp only at hk
  try dsimp only at hown
  try dsimp only at hgr
  refine cw_seq ?_
  refine cw_seq ?_
  refine cw_region ?_
  refine wl_m ?_
  refine wl_m ?_
  refine wl_val rfl (ex_len_slice rfl Try.underlying65 rfl) ?_
  refine wl_val rfl (ex_lss rfl rfl) ?_
  refine wl_nil (nrm_then ?_)
  refine cw_if rfl (fun hc10 => ?_) (fun hc10 => ?_)
  ·skip
   have hk' : k < n := by omega
   obtain ⟨gO, hgO, rfl, hcO⟩ := own_bools hown (by omega)
   obtain ⟨bM, oM, rfl, hbM, hcM⟩ := hmc k hk'
   refine cw_skip (nrm_then ?_)
   refine cw_seq ?_
   refine cw_block ?_
   refine cw_seq ?_
   refine cw_region ?_
   refine wl_m ?_
   refine wl_m ?_
   refine wl_splitb (t := 14) rfl (fun hs14 => ?_) (fun hs14 => ?_)
   ·skip
    subst hs14
    refine wl_n ?_
    refine wl_n ?_
    refine wl_n ?_
    refine wl_n ?_
    refine wl_n ?_
    refine wl_u ?_
    refine wl_u ?_
    refine wl_u ?_
    refine wl_u ?_
    refine wl_u ?_
    refine wl_n ?_
    refine wl_pt ?_
    refine wl_a ?_
    refine wl_nil (nrm_then ?_)
    refine cw_region ?_
    refine wl_m ?_
    refine wl_m ?_
    refine wl_m ?_
    refine wl_m ?_
    refine wl_val rfl (ex_indexAddr (n := k) rfl rfl Try.elem65 hk') ?_
    refine wl_val rfl (ex_load1 rfl Try.agg4 (hcO k _ (bvs_get hk'))) ?_
    refine wl_m ?_
    refine wl_splitb (t := 33) rfl (fun hs33 => ?_) (fun hs33 => ?_)
    ·skip
     refine wl_n ?_
     refine wl_n ?_
     refine wl_n ?_
     refine wl_n ?_
     refine wl_pt ?_
     refine wl_val rfl (ex_indexAddr (n := k) rfl rfl Try.elem65 hk') ?_
     obtain ⟨g12, cur3, hg4, hx5, hcu6, hcs7, -⟩ := hown.at (by omega)
     cases hx5
     refine wl_store1L rfl rfl (rfl) Try.size4 hcu6 (hown.inb hcs7 (k := k) (j := 0) (by omega) (by omega) (by omega)) fun w8 hB9 hw10 => ?_
     replace hw10 := evo_ob hg4 hw10
     have hO11 := hown.set' hg4 hcu6 hB9
     have hE13 := hV2.step hw10 (fun y hy => .inl hy)
     rw [show 0 + k * 1 = k from by omega] at hO11
     refine wl_nil (nrm_block (nrm_then ?_))
     refine cw_region ?_
     refine wl_m ?_
     refine wl_val rfl (ex_add_i64 rfl rfl (by omega) (by omega)) ?_
     refine wl_a ?_
     refine wl_nil (nrm_same ?_)
     refine ⟨(k + 1, _), ?_, ⟨rfl, rfl, trivial⟩, ⟨rfl, rfl, rfl, trivial⟩, hE13, ?_⟩
     · (try dsimp only); omega
     ·skip
      try dsimp only
      refine ⟨by omega, ?_, ?_⟩
      · have h := hO11
        rw [bvs_set (g := fun j => f j ∨ (j < k + 1 ∧ g j)) hk' (by simp only [true_iff]; exact (tf_iff.1 hs33).imp id (fun h => ⟨by omega, h.2⟩)) (fun j hj => by show (f j ∨ (j < k ∧ g j)) ↔ (f j ∨ (j < k + 1 ∧ g j)); constructor; (rintro (h | ⟨h1, h2⟩); exact .inl h; exact .inr ⟨by omega, h2⟩); (rintro (h | ⟨h1, h2⟩); exact .inl h; exact .inr ⟨by omega, h2⟩))] at h
        exact h
      · rw [ex_lt_succ (p := fun j => g j ∧ ¬ f j), ← hgr]
        have hff : f k := (tf_iff.1 hs33).elim id (fun h => absurd h.1 (Nat.lt_irrefl _))
        simp [hff, tf_true, tf_false]
    ·skip
     refine wl_g ?_
     refine wl_m ?_
     refine wl_g ?_
     refine wl_m ?_
     refine wl_g ?_
     refine wl_val rfl (ex_indexAddr (n := k) rfl rfl Try.elem65 hk') ?_
     refine wl_g ?_
     refine wl_val rfl (ex_load1 rfl Try.agg4 ((hV2).cell hcM hbM)) ?_
     refine wl_pf ?_
     refine wl_val rfl (ex_indexAddr (n := k) rfl rfl Try.elem65 hk') ?_
     obtain ⟨g23, cur14, hg15, hx16, hcu17, hcs18, -⟩ := hown.at (by omega)
     cases hx16
     refine wl_store1L rfl rfl (rfl) Try.size4 hcu17 (hown.inb hcs18 (k := k) (j := 0) (by omega) (by omega) (by omega)) fun w19 hB20 hw21 => ?_
     replace hw21 := evo_ob hg15 hw21
     have hO22 := hown.set' hg15 hcu17 hB20
     have hE24 := hV2.step hw21 (fun y hy => .inl hy)
     rw [show 0 + k * 1 = k from by omega] at hO22
     refine wl_nil (nrm_block (nrm_then ?_))
     refine cw_region ?_
     refine wl_m ?_
     refine wl_val rfl (ex_add_i64 rfl rfl (by omega) (by omega)) ?_
     refine wl_a ?_
     refine wl_nil (nrm_same ?_)
     refine ⟨(k + 1, _), ?_, ⟨rfl, rfl, trivial⟩, ⟨rfl, rfl, rfl, trivial⟩, hE24, ?_⟩
     · (try dsimp only); omega
     ·skip
      try dsimp only
      refine ⟨by omega, ?_, ?_⟩
      · have h := hO22
        rw [bvs_set (g := fun j => f j ∨ (j < k + 1 ∧ g j)) hk' (by rw [tf_iff]; exact ⟨fun h => .inr ⟨by omega, h⟩, fun h => (h.resolve_left (fun hf => (tf_no.1 hs33) (.inl hf))).2⟩) (fun j hj => by show (f j ∨ (j < k ∧ g j)) ↔ (f j ∨ (j < k + 1 ∧ g j)); constructor; (rintro (h | ⟨h1, h2⟩); exact .inl h; exact .inr ⟨by omega, h2⟩); (rintro (h | ⟨h1, h2⟩); exact .inl h; exact .inr ⟨by omega, h2⟩))] at h
        exact h
      · rw [ex_lt_succ (p := fun j => g j ∧ ¬ f j), ← hgr]
        have hff : ¬ f k := fun h => tf_no.1 hs33 (.inl h)
        simp [hff, tf_true, tf_false]
   ·skip
    subst hs14
    refine wl_g ?_
    refine wl_m ?_
    refine wl_g ?_
    refine wl_m ?_
    refine wl_g ?_
    refine wl_val rfl (ex_indexAddr (n := k) rfl rfl Try.elem65 hk') ?_
    refine wl_g ?_
    refine wl_val rfl (ex_load1 rfl Try.agg4 ((hV2).cell hcM hbM)) ?_
    refine wl_g ?_
    refine wl_m ?_
    refine wl_splitb (t := 19) rfl (fun hs19 => ?_) (fun hs19 => ?_)
    ·skip
     refine wl_g ?_
     refine wl_m ?_
     refine wl_g ?_
     refine wl_m ?_
     refine wl_g ?_
     refine wl_val rfl (ex_indexAddr (n := k) rfl rfl Try.elem65 hk') ?_
     refine wl_g ?_
     refine wl_val rfl (ex_load1 rfl Try.agg4 (hcO k _ (bvs_get hk'))) ?_
     refine wl_g ?_
     refine wl_val rfl (ex_notb rfl) ?_
     refine wl_g ?_
     refine wl_pt ?_
     refine wl_pf ?_
     refine wl_a ?_
     refine wl_nil (nrm_then ?_)
     refine cw_region ?_
     refine wl_m ?_
     refine wl_m ?_
     refine wl_m ?_
     refine wl_m ?_
     refine wl_val rfl (ex_indexAddr (n := k) rfl rfl Try.elem65 hk') ?_
     refine wl_val rfl (ex_load1 rfl Try.agg4 (hcO k _ (bvs_get hk'))) ?_
     refine wl_m ?_
     refine wl_splitb (t := 33) rfl (fun hs33 => ?_) (fun hs33 => ?_)
     ·skip
      refine wl_n ?_
      refine wl_n ?_
      refine wl_n ?_
      refine wl_n ?_
      refine wl_pt ?_
      refine wl_val rfl (ex_indexAddr (n := k) rfl rfl Try.elem65 hk') ?_
      obtain ⟨g34, cur25, hg26, hx27, hcu28, hcs29, -⟩ := hown.at (by omega)
      cases hx27
      refine wl_store1L rfl rfl (rfl) Try.size4 hcu28 (hown.inb hcs29 (k := k) (j := 0) (by omega) (by omega) (by omega)) fun w30 hB31 hw32 => ?_
      replace hw32 := evo_ob hg26 hw32
      have hO33 := hown.set' hg26 hcu28 hB31
      have hE35 := hV2.step hw32 (fun y hy => .inl hy)
      rw [show 0 + k * 1 = k from by omega] at hO33
      refine wl_nil (nrm_block (nrm_then ?_))
      refine cw_region ?_
      refine wl_m ?_
      refine wl_val rfl (ex_add_i64 rfl rfl (by omega) (by omega)) ?_
      refine wl_a ?_
      refine wl_nil (nrm_same ?_)
      refine ⟨(k + 1, _), ?_, ⟨rfl, rfl, trivial⟩, ⟨rfl, rfl, rfl, trivial⟩, hE35, ?_⟩
      · (try dsimp only); omega
      ·skip
       try dsimp only
       refine ⟨by omega, ?_, ?_⟩
       · have h := hO33
         rw [bvs_set (g := fun j => f j ∨ (j < k + 1 ∧ g j)) hk' (by simp only [true_iff]; exact (tf_iff.1 hs33).imp id (fun h => ⟨by omega, h.2⟩)) (fun j hj => by show (f j ∨ (j < k ∧ g j)) ↔ (f j ∨ (j < k + 1 ∧ g j)); constructor; (rintro (h | ⟨h1, h2⟩); exact .inl h; exact .inr ⟨by omega, h2⟩); (rintro (h | ⟨h1, h2⟩); exact .inl h; exact .inr ⟨by omega, h2⟩))] at h
         exact h
       · rw [ex_lt_succ (p := fun j => g j ∧ ¬ f j), ← hgr]
         have hff : f k := (tf_iff.1 hs33).elim id (fun h => absurd h.1 (Nat.lt_irrefl _))
         have hgg : g k := tf_iff.1 hs19
         simp [hff, tf_true, tf_false, hgg]
     ·skip
      refine wl_g ?_
      refine wl_m ?_
      refine wl_g ?_
      refine wl_m ?_
      refine wl_g ?_
      refine wl_val rfl (ex_indexAddr (n := k) rfl rfl Try.elem65 hk') ?_
      refine wl_g ?_
      refine wl_val rfl (ex_load1 rfl Try.agg4 ((hV2).cell hcM hbM)) ?_
      refine wl_pf ?_
      refine wl_val rfl (ex_indexAddr (n := k) rfl rfl Try.elem65 hk') ?_
      obtain ⟨g45, cur36, hg37, hx38, hcu39, hcs40, -⟩ := hown.at (by omega)
      cases hx38
      refine wl_store1L rfl rfl (rfl) Try.size4 hcu39 (hown.inb hcs40 (k := k) (j := 0) (by omega) (by omega) (by omega)) fun w41 hB42 hw43 => ?_
      replace hw43 := evo_ob hg37 hw43
      have hO44 := hown.set' hg37 hcu39 hB42
      have hE46 := hV2.step hw43 (fun y hy => .inl hy)
      rw [show 0 + k * 1 = k from by omega] at hO44
      refine wl_nil (nrm_block (nrm_then ?_))
      refine cw_region ?_
      refine wl_m ?_
      refine wl_val rfl (ex_add_i64 rfl rfl (by omega) (by omega)) ?_
      refine wl_a ?_
      refine wl_nil (nrm_same ?_)
      refine ⟨(k + 1, _), ?_, ⟨rfl, rfl, trivial⟩, ⟨rfl, rfl, rfl, trivial⟩, hE46, ?_⟩
      · (try dsimp only); omega
      ·skip
       try dsimp only
       refine ⟨by omega, ?_, ?_⟩
       · have h := hO44
         rw [bvs_set (g := fun j => f j ∨ (j < k + 1 ∧ g j)) hk' (by rw [tf_iff]; exact ⟨fun h => .inr ⟨by omega, h⟩, fun h => (h.resolve_left (fun hf => (tf_no.1 hs33) (.inl hf))).2⟩) (fun j hj => by show (f j ∨ (j < k ∧ g j)) ↔ (f j ∨ (j < k + 1 ∧ g j)); constructor; (rintro (h | ⟨h1, h2⟩); exact .inl h; exact .inr ⟨by omega, h2⟩); (rintro (h | ⟨h1, h2⟩); exact .inl h; exact .inr ⟨by omega, h2⟩))] at h
         exact h
       · rw [ex_lt_succ (p := fun j => g j ∧ ¬ f j), ← hgr]
         have hff : ¬ f k := fun h => tf_no.1 hs33 (.inl h)
         have hgg : g k := tf_iff.1 hs19
         simp [hff, tf_true, tf_false, hgg]
    ·skip
     refine wl_n ?_
     refine wl_n ?_
     refine wl_n ?_
     refine wl_n ?_
     refine wl_n ?_
     refine wl_g ?_
     refine wl_pf ?_
     refine wl_pf ?_
     refine wl_a ?_
     refine wl_nil (nrm_then ?_)
     refine cw_region ?_
     refine wl_m ?_
     refine wl_m ?_
     refine wl_m ?_
     refine wl_m ?_
     refine wl_val rfl (ex_indexAddr (n := k) rfl rfl Try.elem65 hk') ?_
     refine wl_val rfl (ex_load1 rfl Try.agg4 (hcO k _ (bvs_get hk'))) ?_
     refine wl_m ?_
     refine wl_splitb (t := 33) rfl (fun hs33 => ?_) (fun hs33 => ?_)
     ·skip
      refine wl_n ?_
      refine wl_n ?_
      refine wl_n ?_
      refine wl_n ?_
      refine wl_pt ?_
      refine wl_val rfl (ex_indexAddr (n := k) rfl rfl Try.elem65 hk') ?_
      obtain ⟨g56, cur47, hg48, hx49, hcu50, hcs51, -⟩ := hown.at (by omega)
      cases hx49
      refine wl_store1L rfl rfl (rfl) Try.size4 hcu50 (hown.inb hcs51 (k := k) (j := 0) (by omega) (by omega) (by omega)) fun w52 hB53 hw54 => ?_
      replace hw54 := evo_ob hg48 hw54
      have hO55 := hown.set' hg48 hcu50 hB53
      have hE57 := hV2.step hw54 (fun y hy => .inl hy)
      rw [show 0 + k * 1 = k from by omega] at hO55
      refine wl_nil (nrm_block (nrm_then ?_))
      refine cw_region ?_
      refine wl_m ?_
      refine wl_val rfl (ex_add_i64 rfl rfl (by omega) (by omega)) ?_
      refine wl_a ?_
      refine wl_nil (nrm_same ?_)
      refine ⟨(k + 1, _), ?_, ⟨rfl, rfl, trivial⟩, ⟨rfl, rfl, rfl, trivial⟩, hE57, ?_⟩
      · (try dsimp only); omega
      ·skip
       try dsimp only
       refine ⟨by omega, ?_, ?_⟩
       · have h := hO55
         rw [bvs_set (g := fun j => f j ∨ (j < k + 1 ∧ g j)) hk' (by simp only [true_iff]; exact (tf_iff.1 hs33).imp id (fun h => ⟨by omega, h.2⟩)) (fun j hj => by show (f j ∨ (j < k ∧ g j)) ↔ (f j ∨ (j < k + 1 ∧ g j)); constructor; (rintro (h | ⟨h1, h2⟩); exact .inl h; exact .inr ⟨by omega, h2⟩); (rintro (h | ⟨h1, h2⟩); exact .inl h; exact .inr ⟨by omega, h2⟩))] at h
         exact h
       · rw [ex_lt_succ (p := fun j => g j ∧ ¬ f j), ← hgr]
         have hff : f k := (tf_iff.1 hs33).elim id (fun h => absurd h.1 (Nat.lt_irrefl _))
         have hgg : ¬ g k := tf_no.1 hs19
         simp [hff, tf_true, tf_false, hgg]
     ·skip
      refine wl_g ?_
      refine wl_m ?_
      refine wl_g ?_
      refine wl_m ?_
      refine wl_g ?_
      refine wl_val rfl (ex_indexAddr (n := k) rfl rfl Try.elem65 hk') ?_
      refine wl_g ?_
      refine wl_val rfl (ex_load1 rfl Try.agg4 ((hV2).cell hcM hbM)) ?_
      refine wl_pf ?_
      refine wl_val rfl (ex_indexAddr (n := k) rfl rfl Try.elem65 hk') ?_
      obtain ⟨g67, cur58, hg59, hx60, hcu61, hcs62, -⟩ := hown.at (by omega)
      cases hx60
      refine wl_store1L rfl rfl (rfl) Try.size4 hcu61 (hown.inb hcs62 (k := k) (j := 0) (by omega) (by omega) (by omega)) fun w63 hB64 hw65 => ?_
      replace hw65 := evo_ob hg59 hw65
      have hO66 := hown.set' hg59 hcu61 hB64
      have hE68 := hV2.step hw65 (fun y hy => .inl hy)
      rw [show 0 + k * 1 = k from by omega] at hO66
      refine wl_nil (nrm_block (nrm_then ?_))
      refine cw_region ?_
      refine wl_m ?_
      refine wl_val rfl (ex_add_i64 rfl rfl (by omega) (by omega)) ?_
      refine wl_a ?_
      refine wl_nil (nrm_same ?_)
      refine ⟨(k + 1, _), ?_, ⟨rfl, rfl, trivial⟩, ⟨rfl, rfl, rfl, trivial⟩, hE68, ?_⟩
      · (try dsimp only); omega
      ·skip
       try dsimp only
       refine ⟨by omega, ?_, ?_⟩
       · have h := hO66
         rw [bvs_set (g := fun j => f j ∨ (j < k + 1 ∧ g j)) hk' (by rw [tf_iff]; exact ⟨fun h => .inr ⟨by omega, h⟩, fun h => (h.resolve_left (fun hf => (tf_no.1 hs33) (.inl hf))).2⟩) (fun j hj => by show (f j ∨ (j < k ∧ g j)) ↔ (f j ∨ (j < k + 1 ∧ g j)); constructor; (rintro (h | ⟨h1, h2⟩); exact .inl h; exact .inr ⟨by omega, h2⟩); (rintro (h | ⟨h1, h2⟩); exact .inl h; exact .inr ⟨by omega, h2⟩))] at h
         exact h
       · rw [ex_lt_succ (p := fun j => g j ∧ ¬ f j), ← hgr]
         have hff : ¬ f k := fun h => tf_no.1 hs33 (.inl h)
         have hgg : ¬ g k := tf_no.1 hs19
         simp [hff, tf_true, tf_false, hgg]
  ·skip
   refine cw_exit (ex_then (ex_then (ex_here (nrm_then ?_))))
   refine cw_seq ?_
   refine cw_region ?_
   refine wl_m ?_
   refine wl_a ?_
   refine wl_nil (nrm_then ?_)
   refine cw_ret (body_ret1 rfl rfl ?_)
   refine ⟨hV2, ?_, z, rfl, ?_⟩
   · rw [bl_congr (g := fun j => f j ∨ (j < k ∧ g j)) (fun j hj => by show (f j ∨ g j) ↔ (f j ∨ (j < k ∧ g j)); constructor; (rintro (h | h); exact .inl h; exact .inr ⟨by omega, h⟩); (rintro (h | h); exact .inl h; exact .inr h.2))]; exact hown
   · rw [hgr]; obtain rfl : k = n := by omega
     exact Iff.rfl

theorem same_ok {X Y : List Nat} {w : World} {n : Nat} {f g : Nat → Prop} {u v : Value} (hu : RSl 1 RBool X w u (bl n f)) (hv : RSl 1 RBool Y w v (bl n g)) (hn : n ≤ 1000000) :
    Calls Try.prog 82 #[u, v] w (Ret fun r w' => Evo [] w w' ∧ ∃ b, r = .bool b ∧ (b = true ↔ ∀ j, j < n → (f j ↔ g j))) := by
  obtain ⟨ua, uc, rfl, hu1⟩ := rsl_bl hu
  obtain ⟨va, vc, rfl, hv1⟩ := rsl_bl hv
  refine calls_of_cw (N := 21) Try.func82 rfl rfl rfl ?_
  refine cw_seq ?_
  refine cw_region ?_
  refine wl_a ?_
  refine wl_nil (nrm_then ?_)
  refine cw_seq ?_
  refine cw_seq ?_
  refine cw_region ?_
  refine wl_a ?_
  refine wl_nil (nrm_then ?_)
  refine cw_block ?_
  refine cw_loop (α := Nat) (0) (fun k => [(5, .int .i64 (k : Nat))]) [(0, _), (1, _)] (fun k wr => Evo [] w wr ∧ (k ≤ n ∧ ∀ j, j < k → (f j ↔ g j))) (fun k => n - k) ⟨rfl, trivial⟩ ⟨rfl, rfl, trivial⟩ ⟨Evo.refl _ _, ⟨Nat.zero_le _, fun j h => by omega⟩⟩ ?_
  rintro k wr1 ⟨hV2, ⟨hk, hs⟩⟩
  show CW _ _ _ _ [(5, _), (0, _), (1, _)] _
  have hE3 := (Evo.refl [] w).then hV2
  refine cw_seq ?_
  refine cw_seq ?_
  refine cw_region ?_
  refine wl_m ?_
  refine wl_m ?_
  refine wl_val rfl (ex_len_slice rfl Try.underlying65 rfl) ?_
  refine wl_val rfl (ex_lss rfl rfl) ?_
  refine wl_nil (nrm_then ?_)
  refine cw_if rfl (fun hc9 => ?_) (fun hc9 => ?_)
  ·skip
   have hk' : k < n := by omega
   obtain ⟨bU, oU, rfl, -, hcU⟩ := hu1 k hk'
   obtain ⟨bV, oV, rfl, -, hcV⟩ := hv1 k hk'
   refine cw_skip (nrm_then ?_)
   refine cw_seq ?_
   refine cw_block ?_
   refine cw_seq ?_
   refine cw_quiet (by kernel_rfl) (by kernel_rfl) ?_
   refine ql_val rfl (fun _ hq5 => ex_move rfl) ?_
   refine ql_val rfl (fun _ hq5 => ex_move rfl) ?_
   refine ql_val rfl (fun _ hq5 => ex_indexAddr (n := k) rfl rfl Try.elem65 hk') ?_
   refine ql_val rfl (fun _ hq5 => ex_load1 rfl Try.agg4 (((hE3.then hq5)).cell hcU (by simp))) ?_
   refine ql_val rfl (fun _ hq5 => ex_move rfl) ?_
   refine ql_val rfl (fun _ hq5 => ex_move rfl) ?_
   refine ql_val rfl (fun _ hq5 => ex_indexAddr (n := k) rfl rfl Try.elem65 hk') ?_
   refine ql_val rfl (fun _ hq5 => ex_load1 rfl Try.agg4 (((hE3.then hq5)).cell hcV (by simp))) ?_
   refine ql_val rfl (fun _ hq5 => ex_neqB rfl rfl Try.underlying4) ?_
   refine ql_nil (fun wq4 hq5 => nrm_then ?_)
   have hE6 := hE3.then hq5
   have hE7 := hV2.then hq5
   refine cw_ifb rfl (fun hc20 => ?_) (fun hc20 => ?_)
   ·skip
    refine cw_seq ?_
    refine cw_region ?_
    refine wl_a ?_
    refine wl_nil (nrm_then ?_)
    refine cw_ret (ret_block (ret_then (ret_then (ret_block (ret_then (body_ret1 rfl rfl ?_))))))
    exact ⟨hE6, false, rfl, by simp only [Bool.false_eq_true, false_iff]; exact fun h => (neq_any tf_iff tf_iff).1 hc20 (h k hk')⟩
   ·skip
    refine cw_skip (nrm_block (nrm_then ?_))
    refine cw_region ?_
    refine wl_m ?_
    refine wl_val rfl (ex_add_i64 rfl rfl (by omega) (by omega)) ?_
    refine wl_a ?_
    refine wl_nil (nrm_same ?_)
    refine ⟨k + 1, ?_, ⟨rfl, trivial⟩, ⟨rfl, rfl, trivial⟩, hE7, ?_⟩
    · omega
    ·skip
     refine ⟨by omega, fun j hj => ?_⟩
     by_cases e : j < k
     · exact hs j e
     · obtain rfl : j = k := by omega
       exact Classical.not_not.1 (fun h => by rw [(neq_any tf_iff tf_iff).2 h] at hc20; cases hc20)
  ·skip
   refine cw_exit (ex_then (ex_then (ex_here (nrm_then ?_))))
   refine cw_seq ?_
   refine cw_region ?_
   refine wl_a ?_
   refine wl_nil (nrm_then ?_)
   refine cw_ret (body_ret1 rfl rfl ?_)
   exact ⟨hE3, true, rfl, by simp only [true_iff]; exact fun j hj => hs j (by omega)⟩

end Go.Proofs.Ytgboffefbpligaa
