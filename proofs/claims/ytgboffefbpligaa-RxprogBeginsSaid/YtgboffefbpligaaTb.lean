/- The walks of the tree's judge: word, classFine, group, bracketed. -/
import Derived.Test.YtgboffefbpligaaTa
namespace Go.Proofs.Ytgboffefbpligaa
open Go.Proofs
open Go.W Go.RowKit
attribute [local irreducible] Decidable.decide
set_option linter.unusedSimpArgs false
set_option linter.unusedVariables false
theorem Try.agg21 : aggB Try.prog 21 = some false := by kernel_rfl
theorem Try.agg27 : aggB Try.prog 27 = some false := by kernel_rfl
theorem Try.agg51 : aggB Try.prog 51 = some true := by kernel_rfl
theorem Try.agg9 : aggB Try.prog 9 = some false := by kernel_rfl
theorem Try.app27_27 : appB Try.prog 27 27 = some (9, 1, 16) := by kernel_rfl
theorem Try.elem22 : elemB Try.prog 22 = some 2 := by kernel_rfl
theorem Try.elem27 : elemB Try.prog 27 = some 1 := by kernel_rfl
theorem Try.fld51_0 : fieldB Try.prog 51 0 = some 0 := by kernel_rfl
theorem Try.fld51_1 : fieldB Try.prog 51 1 = some 1 := by kernel_rfl
theorem Try.fld79_1 : fieldB Try.prog 79 1 = some 1 := by kernel_rfl
theorem Try.goes95 : Goes Try.prog 95 := ⟨_, Try.func95, by kernel_rfl, by kernel_rfl⟩
theorem Try.size27 : sizeB Try.prog 27 = some 1 := by kernel_rfl
theorem Try.size51 : sizeB Try.prog 51 = some 2 := by kernel_rfl
theorem Try.slice27 : sliceB Try.prog 27 = some (9, 1) := by kernel_rfl
theorem Try.zero51 : zeroB Try.prog 51 = some #[.int .i32 0, .int .i32 0] := by kernel_rfl


theorem own_strs {w : World} {e : TypeId} {a : Option Addr} {n c : Nat} {ys : List ByteArray} {ob : Option Nat} (h : OwnS w e 1 a n c (ys.map sv) ob) (h0 : 0 < n) : ∃ g, a = some ⟨g, 0, none⟩ ∧ ∀ k (hk : k < ys.length), w.cell? ⟨g, 0 + k * 1, none⟩ = some (sv ys[k]) := by
  obtain ⟨g, hg, ha, hc⟩ := h.cells h0
  refine ⟨g, ha, fun k hk => ?_⟩
  rw [Nat.mul_one]
  exact hc k _ (by simp [hk])
def RangesTo (l : List (Int × Int)) (n : Nat) : Prop := ∀ i (h : i < l.length), i < n → 0 ≤ l[i].1 ∧ l[i].1 ≤ l[i].2 ∧ l[i].2 ≤ 1114111 ∧ ∀ j (hj : j < l.length), i = j + 1 → l[j].2 + 1 < l[i].1
theorem RangesTo.succ {l : List (Int × Int)} {n : Nat} (h : RangesTo l n) (hn : n < l.length) (h1 : 0 ≤ l[n].1) (h2 : l[n].1 ≤ l[n].2) (h3 : l[n].2 ≤ 1114111) (h4 : ∀ j (hj : j < l.length), n = j + 1 → l[j].2 + 1 < l[n].1) : RangesTo l (n + 1) := fun i hi hin => by
  by_cases e : i = n
  · subst e; exact ⟨h1, h2, h3, h4⟩
  · exact h i hi (by omega)
theorem RangesTo.ok {l : List (Int × Int)} {n : Nat} (h : RangesTo l n) (hn : l.length ≤ n) (h1 : ∀ h : l.length = 1, l[0].1 ≠ l[0].2) : RangesOk l := ⟨fun i hi => h i hi (by omega), h1⟩

theorem word_ok {w : World} (c : Nat) : Calls Try.prog 95 #[.int .u8 (c : Nat)] w (Ret fun v w' => v = .bool (decide (wordN c)) ∧ Evo [] w w') := by
  refine calls_of_cw (N := 29) Try.func95 rfl rfl rfl ?_
  refine cw_seq ?_
  refine cw_region ?_
  refine wl_a ?_
  refine wl_nil (nrm_then ?_)
  refine cw_seq ?_
  refine cw_region ?_
  refine wl_m ?_
  refine wl_val rfl (ex_geq rfl rfl) ?_
  refine wl_m ?_
  refine wl_split (t := 5) rfl (fun hs5 => ?_) (fun hs5 => ?_)
  ·skip
   refine wl_g ?_
   refine wl_m ?_
   refine wl_g ?_
   refine wl_val rfl (ex_leq rfl rfl) ?_
   refine wl_pt ?_
   refine wl_m ?_
   refine wl_split (t := 9) rfl (fun hs9 => ?_) (fun hs9 => ?_)
   ·skip
    refine wl_n ?_
    refine wl_n ?_
    refine wl_n ?_
    refine wl_u ?_
    refine wl_u ?_
    refine wl_n ?_
    refine wl_pt ?_
    refine wl_m ?_
    refine wl_n ?_
    refine wl_n ?_
    refine wl_n ?_
    refine wl_u ?_
    refine wl_u ?_
    refine wl_n ?_
    refine wl_pt ?_
    refine wl_m ?_
    refine wl_n ?_
    refine wl_n ?_
    refine wl_pt ?_
    refine wl_a ?_
    refine wl_nil (nrm_then ?_)
    refine cw_ret (body_ret1 rfl rfl ?_)
    refine ⟨congrArg Value.bool (Bool.eq_iff_iff.2 ?_), (Evo.refl [] w)⟩
    simp only [decide_eq_true_eq, Bool.false_eq_true, Bool.true_eq_false, true_iff, false_iff, eq_self, iff_true]; unfold wordN; omega
   ·skip
    refine wl_g ?_
    refine wl_m ?_
    refine wl_g ?_
    refine wl_val rfl (ex_geq rfl rfl) ?_
    refine wl_g ?_
    refine wl_m ?_
    refine wl_split (t := 12) rfl (fun hs12 => ?_) (fun hs12 => ?_)
    ·skip
     refine wl_g ?_
     refine wl_m ?_
     refine wl_g ?_
     refine wl_val rfl (ex_leq rfl rfl) ?_
     refine wl_g ?_
     refine wl_pt ?_
     refine wl_pf ?_
     refine wl_m ?_
     refine wl_split (t := 17) rfl (fun hs17 => ?_) (fun hs17 => ?_)
     ·skip
      refine wl_n ?_
      refine wl_n ?_
      refine wl_n ?_
      refine wl_u ?_
      refine wl_u ?_
      refine wl_n ?_
      refine wl_pt ?_
      refine wl_m ?_
      refine wl_n ?_
      refine wl_n ?_
      refine wl_pt ?_
      refine wl_a ?_
      refine wl_nil (nrm_then ?_)
      refine cw_ret (body_ret1 rfl rfl ?_)
      refine ⟨congrArg Value.bool (Bool.eq_iff_iff.2 ?_), (Evo.refl [] w)⟩
      simp only [decide_eq_true_eq, Bool.false_eq_true, Bool.true_eq_false, true_iff, false_iff, eq_self, iff_true]; unfold wordN; omega
     ·skip
      refine wl_g ?_
      refine wl_m ?_
      refine wl_g ?_
      refine wl_val rfl (ex_geq rfl rfl) ?_
      refine wl_g ?_
      refine wl_m ?_
      refine wl_split (t := 20) rfl (fun hs20 => ?_) (fun hs20 => ?_)
      ·skip
       refine wl_g ?_
       refine wl_m ?_
       refine wl_g ?_
       refine wl_val rfl (ex_leq rfl rfl) ?_
       refine wl_g ?_
       refine wl_pt ?_
       refine wl_pf ?_
       refine wl_m ?_
       refine wl_split (t := 25) rfl (fun hs25 => ?_) (fun hs25 => ?_)
       ·skip
        refine wl_n ?_
        refine wl_n ?_
        refine wl_pt ?_
        refine wl_a ?_
        refine wl_nil (nrm_then ?_)
        refine cw_ret (body_ret1 rfl rfl ?_)
        refine ⟨congrArg Value.bool (Bool.eq_iff_iff.2 ?_), (Evo.refl [] w)⟩
        simp only [decide_eq_true_eq, Bool.false_eq_true, Bool.true_eq_false, true_iff, false_iff, eq_self, iff_true]; unfold wordN; omega
       ·skip
        refine wl_g ?_
        refine wl_m ?_
        refine wl_g ?_
        refine wl_val rfl (ex_eql rfl rfl) ?_
        refine wl_pf ?_
        refine wl_a ?_
        refine wl_nil (nrm_then ?_)
        refine cw_ret (body_ret1 rfl rfl ?_)
        refine ⟨congrArg Value.bool (Bool.eq_iff_iff.2 ?_), (Evo.refl [] w)⟩
        simp only [decide_eq_true_eq, Bool.false_eq_true, Bool.true_eq_false, true_iff, false_iff, eq_self, iff_true]; unfold wordN; omega
      ·skip
       refine wl_n ?_
       refine wl_n ?_
       refine wl_g ?_
       refine wl_pf ?_
       refine wl_pf ?_
       refine wl_m ?_
       refine wl_g ?_
       refine wl_m ?_
       refine wl_g ?_
       refine wl_val rfl (ex_eql rfl rfl) ?_
       refine wl_pf ?_
       refine wl_a ?_
       refine wl_nil (nrm_then ?_)
       refine cw_ret (body_ret1 rfl rfl ?_)
       refine ⟨congrArg Value.bool (Bool.eq_iff_iff.2 ?_), (Evo.refl [] w)⟩
       simp only [decide_eq_true_eq, Bool.false_eq_true, Bool.true_eq_false, true_iff, false_iff, eq_self, iff_true]; unfold wordN; omega
    ·skip
     refine wl_n ?_
     refine wl_n ?_
     refine wl_g ?_
     refine wl_pf ?_
     refine wl_pf ?_
     refine wl_m ?_
     refine wl_g ?_
     refine wl_m ?_
     refine wl_g ?_
     refine wl_val rfl (ex_geq rfl rfl) ?_
     refine wl_g ?_
     refine wl_m ?_
     refine wl_split (t := 20) rfl (fun hs20 => ?_) (fun hs20 => ?_)
     ·skip
      refine wl_g ?_
      refine wl_m ?_
      refine wl_g ?_
      refine wl_val rfl (ex_leq rfl rfl) ?_
      refine wl_g ?_
      refine wl_pt ?_
      refine wl_pf ?_
      refine wl_m ?_
      refine wl_split (t := 25) rfl (fun hs25 => ?_) (fun hs25 => ?_)
      ·skip
       refine wl_n ?_
       refine wl_n ?_
       refine wl_pt ?_
       refine wl_a ?_
       refine wl_nil (nrm_then ?_)
       refine cw_ret (body_ret1 rfl rfl ?_)
       refine ⟨congrArg Value.bool (Bool.eq_iff_iff.2 ?_), (Evo.refl [] w)⟩
       simp only [decide_eq_true_eq, Bool.false_eq_true, Bool.true_eq_false, true_iff, false_iff, eq_self, iff_true]; unfold wordN; omega
      ·skip
       refine wl_g ?_
       refine wl_m ?_
       refine wl_g ?_
       refine wl_val rfl (ex_eql rfl rfl) ?_
       refine wl_pf ?_
       refine wl_a ?_
       refine wl_nil (nrm_then ?_)
       refine cw_ret (body_ret1 rfl rfl ?_)
       refine ⟨congrArg Value.bool (Bool.eq_iff_iff.2 ?_), (Evo.refl [] w)⟩
       simp only [decide_eq_true_eq, Bool.false_eq_true, Bool.true_eq_false, true_iff, false_iff, eq_self, iff_true]; unfold wordN; omega
     ·skip
      refine wl_n ?_
      refine wl_n ?_
      refine wl_g ?_
      refine wl_pf ?_
      refine wl_pf ?_
      refine wl_m ?_
      refine wl_g ?_
      refine wl_m ?_
      refine wl_g ?_
      refine wl_val rfl (ex_eql rfl rfl) ?_
      refine wl_pf ?_
      refine wl_a ?_
      refine wl_nil (nrm_then ?_)
      refine cw_ret (body_ret1 rfl rfl ?_)
      refine ⟨congrArg Value.bool (Bool.eq_iff_iff.2 ?_), (Evo.refl [] w)⟩
      simp only [decide_eq_true_eq, Bool.false_eq_true, Bool.true_eq_false, true_iff, false_iff, eq_self, iff_true]; unfold wordN; omega
  ·skip
   refine wl_n ?_
   refine wl_n ?_
   refine wl_pf ?_
   refine wl_m ?_
   refine wl_g ?_
   refine wl_m ?_
   refine wl_g ?_
   refine wl_val rfl (ex_geq rfl rfl) ?_
   refine wl_g ?_
   refine wl_m ?_
   refine wl_split (t := 12) rfl (fun hs12 => ?_) (fun hs12 => ?_)
   ·skip
    refine wl_g ?_
    refine wl_m ?_
    refine wl_g ?_
    refine wl_val rfl (ex_leq rfl rfl) ?_
    refine wl_g ?_
    refine wl_pt ?_
    refine wl_pf ?_
    refine wl_m ?_
    refine wl_split (t := 17) rfl (fun hs17 => ?_) (fun hs17 => ?_)
    ·skip
     refine wl_n ?_
     refine wl_n ?_
     refine wl_n ?_
     refine wl_u ?_
     refine wl_u ?_
     refine wl_n ?_
     refine wl_pt ?_
     refine wl_m ?_
     refine wl_n ?_
     refine wl_n ?_
     refine wl_pt ?_
     refine wl_a ?_
     refine wl_nil (nrm_then ?_)
     refine cw_ret (body_ret1 rfl rfl ?_)
     refine ⟨congrArg Value.bool (Bool.eq_iff_iff.2 ?_), (Evo.refl [] w)⟩
     simp only [decide_eq_true_eq, Bool.false_eq_true, Bool.true_eq_false, true_iff, false_iff, eq_self, iff_true]; unfold wordN; omega
    ·skip
     refine wl_g ?_
     refine wl_m ?_
     refine wl_g ?_
     refine wl_val rfl (ex_geq rfl rfl) ?_
     refine wl_g ?_
     refine wl_m ?_
     refine wl_split (t := 20) rfl (fun hs20 => ?_) (fun hs20 => ?_)
     ·skip
      refine wl_g ?_
      refine wl_m ?_
      refine wl_g ?_
      refine wl_val rfl (ex_leq rfl rfl) ?_
      refine wl_g ?_
      refine wl_pt ?_
      refine wl_pf ?_
      refine wl_m ?_
      refine wl_split (t := 25) rfl (fun hs25 => ?_) (fun hs25 => ?_)
      ·skip
       refine wl_n ?_
       refine wl_n ?_
       refine wl_pt ?_
       refine wl_a ?_
       refine wl_nil (nrm_then ?_)
       refine cw_ret (body_ret1 rfl rfl ?_)
       refine ⟨congrArg Value.bool (Bool.eq_iff_iff.2 ?_), (Evo.refl [] w)⟩
       simp only [decide_eq_true_eq, Bool.false_eq_true, Bool.true_eq_false, true_iff, false_iff, eq_self, iff_true]; unfold wordN; omega
      ·skip
       refine wl_g ?_
       refine wl_m ?_
       refine wl_g ?_
       refine wl_val rfl (ex_eql rfl rfl) ?_
       refine wl_pf ?_
       refine wl_a ?_
       refine wl_nil (nrm_then ?_)
       refine cw_ret (body_ret1 rfl rfl ?_)
       refine ⟨congrArg Value.bool (Bool.eq_iff_iff.2 ?_), (Evo.refl [] w)⟩
       simp only [decide_eq_true_eq, Bool.false_eq_true, Bool.true_eq_false, true_iff, false_iff, eq_self, iff_true]; unfold wordN; omega
     ·skip
      refine wl_n ?_
      refine wl_n ?_
      refine wl_g ?_
      refine wl_pf ?_
      refine wl_pf ?_
      refine wl_m ?_
      refine wl_g ?_
      refine wl_m ?_
      refine wl_g ?_
      refine wl_val rfl (ex_eql rfl rfl) ?_
      refine wl_pf ?_
      refine wl_a ?_
      refine wl_nil (nrm_then ?_)
      refine cw_ret (body_ret1 rfl rfl ?_)
      refine ⟨congrArg Value.bool (Bool.eq_iff_iff.2 ?_), (Evo.refl [] w)⟩
      simp only [decide_eq_true_eq, Bool.false_eq_true, Bool.true_eq_false, true_iff, false_iff, eq_self, iff_true]; unfold wordN; omega
   ·skip
    refine wl_n ?_
    refine wl_n ?_
    refine wl_g ?_
    refine wl_pf ?_
    refine wl_pf ?_
    refine wl_m ?_
    refine wl_g ?_
    refine wl_m ?_
    refine wl_g ?_
    refine wl_val rfl (ex_geq rfl rfl) ?_
    refine wl_g ?_
    refine wl_m ?_
    refine wl_split (t := 20) rfl (fun hs20 => ?_) (fun hs20 => ?_)
    ·skip
     refine wl_g ?_
     refine wl_m ?_
     refine wl_g ?_
     refine wl_val rfl (ex_leq rfl rfl) ?_
     refine wl_g ?_
     refine wl_pt ?_
     refine wl_pf ?_
     refine wl_m ?_
     refine wl_split (t := 25) rfl (fun hs25 => ?_) (fun hs25 => ?_)
     ·skip
      refine wl_n ?_
      refine wl_n ?_
      refine wl_pt ?_
      refine wl_a ?_
      refine wl_nil (nrm_then ?_)
      refine cw_ret (body_ret1 rfl rfl ?_)
      refine ⟨congrArg Value.bool (Bool.eq_iff_iff.2 ?_), (Evo.refl [] w)⟩
      simp only [decide_eq_true_eq, Bool.false_eq_true, Bool.true_eq_false, true_iff, false_iff, eq_self, iff_true]; unfold wordN; omega
     ·skip
      refine wl_g ?_
      refine wl_m ?_
      refine wl_g ?_
      refine wl_val rfl (ex_eql rfl rfl) ?_
      refine wl_pf ?_
      refine wl_a ?_
      refine wl_nil (nrm_then ?_)
      refine cw_ret (body_ret1 rfl rfl ?_)
      refine ⟨congrArg Value.bool (Bool.eq_iff_iff.2 ?_), (Evo.refl [] w)⟩
      simp only [decide_eq_true_eq, Bool.false_eq_true, Bool.true_eq_false, true_iff, false_iff, eq_self, iff_true]; unfold wordN; omega
    ·skip
     refine wl_n ?_
     refine wl_n ?_
     refine wl_g ?_
     refine wl_pf ?_
     refine wl_pf ?_
     refine wl_m ?_
     refine wl_g ?_
     refine wl_m ?_
     refine wl_g ?_
     refine wl_val rfl (ex_eql rfl rfl) ?_
     refine wl_pf ?_
     refine wl_a ?_
     refine wl_nil (nrm_then ?_)
     refine cw_ret (body_ret1 rfl rfl ?_)
     refine ⟨congrArg Value.bool (Bool.eq_iff_iff.2 ?_), (Evo.refl [] w)⟩
     simp only [decide_eq_true_eq, Bool.false_eq_true, Bool.true_eq_false, true_iff, false_iff, eq_self, iff_true]; unfold wordN; omega

theorem classFine_ok {X : List Nat} {w : World} {v : Value} {l : List (Int × Int)} (hs : RSl 2 RRg X w v l) (hl : l.length ≤ 140737488351232) : Calls Try.prog 78 #[v] w (Ret fun v w' => ∃ b, v = .bool b ∧ (b = true ↔ RangesOk l) ∧ Evo [] w w') := by
  obtain ⟨sa, sc, rfl, hlc, e1⟩ := hs
  refine calls_of_cw (N := 58) Try.func78 rfl rfl rfl ?_
  refine cw_seq ?_
  refine cw_region ?_
  refine wl_a ?_
  refine wl_nil (nrm_then ?_)
  refine cw_seq ?_
  refine cw_seq ?_
  refine cw_region ?_
  refine wl_m ?_
  refine wl_val rfl (ex_len_slice rfl Try.underlying22 rfl) ?_
  refine wl_m ?_
  refine wl_nil (nrm_then ?_)
  refine cw_block ?_
  refine cw_loop (α := Nat) (0) (fun k => [(7, .int .i64 (k : Nat))]) [(0, _), (5, _), (6, _)] (fun k wr => Evo [] w wr ∧ (k ≤ l.length ∧ RangesTo l k)) (fun k => l.length - k) ⟨rfl, trivial⟩ ⟨rfl, rfl, rfl, trivial⟩ ⟨Evo.refl _ _, ⟨Nat.zero_le _, fun i _ h => by omega⟩⟩ ?_
  rintro k wr1 ⟨hV2, ⟨hk, hok⟩⟩
  show CW _ _ _ _ [(7, _), (0, _), (5, _), (6, _)] _
  have hE3 := (Evo.refl [] w).then hV2
  refine cw_seq ?_
  refine cw_region ?_
  refine wl_val rfl (ex_lss rfl rfl) ?_
  refine wl_nil (nrm_then ?_)
  refine cw_seq ?_
  refine cw_if rfl (fun hc8 => ?_) (fun hc8 => ?_)
  ·skip
   have hk' : k < l.length := by omega
   obtain ⟨b1, o1, vs1, ha1, hb1, -, hc1, rfl⟩ := e1 k hk'
   refine cw_skip (nrm_then ?_)
   refine cw_seq ?_
   refine cw_block ?_
   refine cw_seq ?_
   refine cw_region ?_
   refine wl_m ?_
   refine wl_val rfl (ex_indexAddr (n := k) (by rw [ha1]; rfl) rfl Try.elem22 (by omega)) ?_
   refine wl_val rfl (ex_loadA rfl Try.agg51 Try.size51 (vs := [_, _]) rfl (hc1.evo hE3 (by simp))) ?_
   refine wl_alloc rfl Try.zero51 fun b4 w5 hB6 hs7 hw8 => ?_
   have hG9 := Ge.new hE3 hs7
   have hG10 := Ge.new hV2 hs7
   have hE11 := hE3.then hw8
   have hE12 := hV2.then hw8
   refine wl_a ?_
   refine wl_storeBlk rfl rfl Try.size51 hB6 rfl rfl ⟨by first | rfl | assumption, by first | rfl | assumption, trivial⟩ fun w13 hB14 hw15 => ?_
   have hE16 := hE11.step hw15 hG9.mem1
   have hE17 := hE12.step hw15 hG10.mem1
   refine wl_nil (nrm_then ?_)
   refine cw_seq ?_
   refine cw_quiet (by kernel_rfl) (by kernel_rfl) ?_
   refine ql_val rfl (fun _ hq19 => ex_fieldAddr rfl Try.fld51_0) ?_
   refine ql_val rfl (fun _ hq19 => ex_load1 rfl Try.agg21 (cell_nth (hq19.blk0 hB14) rfl)) ?_
   refine ql_val rfl (fun _ hq19 => ex_lss rfl rfl) ?_
   refine ql_val rfl (fun _ hq19 => ex_move rfl) ?_
   refine ql_split (t := 15) rfl (fun hs15 => ?_) (fun hs15 => ?_)
   ·skip
    refine ql_no rfl rfl rfl rfl rfl rfl ?_
    refine ql_no rfl rfl rfl rfl rfl rfl ?_
    refine ql_no rfl rfl rfl rfl rfl rfl ?_
    refine ql_no rfl rfl rfl rfl rfl rfl ?_
    refine ql_no rfl rfl rfl rfl rfl rfl ?_
    refine ql_val rfl (fun _ hq19 => ex_pick_t rfl rfl) ?_
    refine ql_val rfl (fun _ hq19 => ex_move rfl) ?_
    refine ql_no rfl rfl rfl rfl rfl rfl ?_
    refine ql_no rfl rfl rfl rfl rfl rfl ?_
    refine ql_no rfl rfl rfl rfl rfl rfl ?_
    refine ql_val rfl (fun _ hq19 => ex_pick_t rfl rfl) ?_
    refine ql_val rfl (fun _ hq19 => ex_move rfl) ?_
    refine ql_no rfl rfl rfl rfl rfl rfl ?_
    refine ql_no rfl rfl rfl rfl rfl rfl ?_
    refine ql_no rfl rfl rfl rfl rfl rfl ?_
    refine ql_nou rfl rfl rfl rfl rfl ?_
    refine ql_nou rfl rfl rfl rfl rfl ?_
    refine ql_nou rfl rfl rfl rfl rfl ?_
    refine ql_nou rfl rfl rfl rfl rfl ?_
    refine ql_nou rfl rfl rfl rfl rfl ?_
    refine ql_nou rfl rfl rfl rfl rfl ?_
    refine ql_nou rfl rfl rfl rfl rfl ?_
    refine ql_nou rfl rfl rfl rfl rfl ?_
    refine ql_nou rfl rfl rfl rfl rfl ?_
    refine ql_nou rfl rfl rfl rfl rfl ?_
    refine ql_no rfl rfl rfl rfl rfl rfl ?_
    refine ql_val rfl (fun _ hq19 => ex_pick_t rfl rfl) ?_
    refine ql_nil (fun wq18 hq19 => nrm_then ?_)
    have hE20 := hE16.then hq19
    have hE21 := hE17.then hq19
    refine cw_true rfl ?_
    refine cw_seq ?_
    refine cw_region ?_
    refine wl_a ?_
    refine wl_nil (nrm_then ?_)
    refine cw_ret (ret_block (ret_then (ret_then (ret_block (ret_then (body_ret1 rfl rfl ?_))))))
    exact ⟨false, rfl, by simp only [Bool.false_eq_true, false_iff]; exact fun h => by have := (h.1 k hk').1; omega, hE20⟩
   ·skip
    refine ql_go rfl rfl rfl rfl ?_
    refine ql_val rfl (fun _ hq19 => ex_fieldAddr rfl Try.fld51_0) ?_
    refine ql_go rfl rfl rfl rfl ?_
    refine ql_val rfl (fun _ hq19 => ex_load1 rfl Try.agg21 (cell_nth (hq19.blk0 hB14) rfl)) ?_
    refine ql_go rfl rfl rfl rfl ?_
    refine ql_val rfl (fun _ hq19 => ex_fieldAddr rfl Try.fld51_1) ?_
    refine ql_go rfl rfl rfl rfl ?_
    refine ql_val rfl (fun _ hq19 => ex_load1 rfl Try.agg21 (cell_nth (hq19.blk0 hB14) rfl)) ?_
    refine ql_go rfl rfl rfl rfl ?_
    refine ql_val rfl (fun _ hq19 => ex_gtr rfl rfl) ?_
    refine ql_val rfl (fun _ hq19 => ex_pick_f rfl rfl) ?_
    refine ql_val rfl (fun _ hq19 => ex_move rfl) ?_
    refine ql_split (t := 22) rfl (fun hs22 => ?_) (fun hs22 => ?_)
    ·skip
     refine ql_no rfl rfl rfl rfl rfl rfl ?_
     refine ql_no rfl rfl rfl rfl rfl rfl ?_
     refine ql_no rfl rfl rfl rfl rfl rfl ?_
     refine ql_val rfl (fun _ hq19 => ex_pick_t rfl rfl) ?_
     refine ql_val rfl (fun _ hq19 => ex_move rfl) ?_
     refine ql_no rfl rfl rfl rfl rfl rfl ?_
     refine ql_no rfl rfl rfl rfl rfl rfl ?_
     refine ql_no rfl rfl rfl rfl rfl rfl ?_
     refine ql_nou rfl rfl rfl rfl rfl ?_
     refine ql_nou rfl rfl rfl rfl rfl ?_
     refine ql_nou rfl rfl rfl rfl rfl ?_
     refine ql_nou rfl rfl rfl rfl rfl ?_
     refine ql_nou rfl rfl rfl rfl rfl ?_
     refine ql_nou rfl rfl rfl rfl rfl ?_
     refine ql_nou rfl rfl rfl rfl rfl ?_
     refine ql_nou rfl rfl rfl rfl rfl ?_
     refine ql_nou rfl rfl rfl rfl rfl ?_
     refine ql_nou rfl rfl rfl rfl rfl ?_
     refine ql_no rfl rfl rfl rfl rfl rfl ?_
     refine ql_val rfl (fun _ hq19 => ex_pick_t rfl rfl) ?_
     refine ql_nil (fun wq18 hq19 => nrm_then ?_)
     have hE22 := hE16.then hq19
     have hE23 := hE17.then hq19
     refine cw_true rfl ?_
     refine cw_seq ?_
     refine cw_region ?_
     refine wl_a ?_
     refine wl_nil (nrm_then ?_)
     refine cw_ret (ret_block (ret_then (ret_then (ret_block (ret_then (body_ret1 rfl rfl ?_))))))
     exact ⟨false, rfl, by simp only [Bool.false_eq_true, false_iff]; exact fun h => by have := (h.1 k hk').2.1; omega, hE22⟩
    ·skip
     refine ql_go rfl rfl rfl rfl ?_
     refine ql_val rfl (fun _ hq19 => ex_fieldAddr rfl Try.fld51_1) ?_
     refine ql_go rfl rfl rfl rfl ?_
     refine ql_val rfl (fun _ hq19 => ex_load1 rfl Try.agg21 (cell_nth (hq19.blk0 hB14) rfl)) ?_
     refine ql_go rfl rfl rfl rfl ?_
     refine ql_val rfl (fun _ hq19 => ex_gtr rfl rfl) ?_
     refine ql_val rfl (fun _ hq19 => ex_pick_f rfl rfl) ?_
     refine ql_val rfl (fun _ hq19 => ex_move rfl) ?_
     refine ql_split (t := 27) rfl (fun hs27 => ?_) (fun hs27 => ?_)
     ·skip
      refine ql_no rfl rfl rfl rfl rfl rfl ?_
      refine ql_no rfl rfl rfl rfl rfl rfl ?_
      refine ql_no rfl rfl rfl rfl rfl rfl ?_
      refine ql_nou rfl rfl rfl rfl rfl ?_
      refine ql_nou rfl rfl rfl rfl rfl ?_
      refine ql_nou rfl rfl rfl rfl rfl ?_
      refine ql_nou rfl rfl rfl rfl rfl ?_
      refine ql_nou rfl rfl rfl rfl rfl ?_
      refine ql_nou rfl rfl rfl rfl rfl ?_
      refine ql_nou rfl rfl rfl rfl rfl ?_
      refine ql_nou rfl rfl rfl rfl rfl ?_
      refine ql_nou rfl rfl rfl rfl rfl ?_
      refine ql_nou rfl rfl rfl rfl rfl ?_
      refine ql_no rfl rfl rfl rfl rfl rfl ?_
      refine ql_val rfl (fun _ hq19 => ex_pick_t rfl rfl) ?_
      refine ql_nil (fun wq18 hq19 => nrm_then ?_)
      have hE24 := hE16.then hq19
      have hE25 := hE17.then hq19
      refine cw_true rfl ?_
      refine cw_seq ?_
      refine cw_region ?_
      refine wl_a ?_
      refine wl_nil (nrm_then ?_)
      refine cw_ret (ret_block (ret_then (ret_then (ret_block (ret_then (body_ret1 rfl rfl ?_))))))
      exact ⟨false, rfl, by simp only [Bool.false_eq_true, false_iff]; exact fun h => by have := (h.1 k hk').2.2.1; omega, hE24⟩
     ·skip
      refine ql_go rfl rfl rfl rfl ?_
      refine ql_val rfl (fun _ hq19 => ex_move rfl) ?_
      refine ql_go rfl rfl rfl rfl ?_
      refine ql_val rfl (fun _ hq19 => ex_gtr rfl rfl) ?_
      refine ql_go rfl rfl rfl rfl ?_
      refine ql_val rfl (fun _ hq19 => ex_move rfl) ?_
      refine ql_split (t := 30) rfl (fun hs30 => ?_) (fun hs30 => ?_)
      ·skip
       obtain ⟨b2, o2, vs2, ha2, hb2, -, hc2, rfl⟩ := e1 (k - 1) (by omega)
       have hpr := hok (k - 1) (by omega) (by omega)
       refine ql_go rfl rfl rfl rfl ?_
       refine ql_val rfl (fun _ hq19 => ex_fieldAddr rfl Try.fld51_0) ?_
       refine ql_go rfl rfl rfl rfl ?_
       refine ql_val rfl (fun _ hq19 => ex_load1 rfl Try.agg21 (cell_nth (hq19.blk0 hB14) rfl)) ?_
       refine ql_go rfl rfl rfl rfl ?_
       refine ql_val rfl (fun _ hq19 => ex_move rfl) ?_
       refine ql_go rfl rfl rfl rfl ?_
       refine ql_val rfl (fun _ hq19 => ex_move rfl) ?_
       refine ql_go rfl rfl rfl rfl ?_
       refine ql_val rfl (fun _ hq19 => ex_sub_i64 rfl rfl (by omega) (by omega)) ?_
       refine ql_go rfl rfl rfl rfl ?_
       refine ql_val rfl (fun _ hq19 => ex_indexAddrZ (n := k - 1) (by rw [ha2]; rfl) rfl (by omega) Try.elem22 (by omega)) ?_
       refine ql_go rfl rfl rfl rfl ?_
       refine ql_val rfl (fun _ hq19 => ex_fieldAddr rfl Try.fld51_1) ?_
       refine ql_go rfl rfl rfl rfl ?_
       refine ql_val rfl (fun _ hq19 => ex_load1 rfl Try.agg21 ((hc2.evo (hE16.then hq19) (by simp)) 1 _ rfl)) ?_
       refine ql_go rfl rfl rfl rfl ?_
       refine ql_val rfl (fun _ hq19 => ex_add_i32 rfl rfl (by omega) (by omega)) ?_
       refine ql_go rfl rfl rfl rfl ?_
       refine ql_val rfl (fun _ hq19 => ex_leq rfl rfl) ?_
       refine ql_go rfl rfl rfl rfl ?_
       refine ql_val rfl (fun _ hq19 => ex_pick_t rfl rfl) ?_
       refine ql_val rfl (fun _ hq19 => ex_pick_f rfl rfl) ?_
       refine ql_nil (fun wq18 hq19 => nrm_then ?_)
       have hE26 := hE16.then hq19
       have hE27 := hE17.then hq19
       refine cw_if rfl (fun hc42 => ?_) (fun hc42 => ?_)
       ·skip
        refine cw_seq ?_
        refine cw_region ?_
        refine wl_a ?_
        refine wl_nil (nrm_then ?_)
        refine cw_ret (ret_block (ret_then (ret_then (ret_block (ret_then (body_ret1 rfl rfl ?_))))))
        exact ⟨false, rfl, by simp only [Bool.false_eq_true, false_iff]; exact fun h => by have := (h.1 k hk').2.2.2 (k - 1) (by omega) (by omega); omega, hE26⟩
       ·skip
        refine cw_skip (nrm_block (nrm_then ?_))
        refine cw_region ?_
        refine wl_val rfl (ex_add_i64 rfl rfl (by omega) (by omega)) ?_
        refine wl_m ?_
        refine wl_nil (nrm_same ?_)
        refine ⟨k + 1, ?_, ⟨rfl, trivial⟩, ⟨rfl, rfl, rfl, trivial⟩, hE27, ?_⟩
        · omega
        ·skip
         exact ⟨by omega, hok.succ hk' (by omega) (by omega) (by omega) (fun j hj e => by first | (subst e; simp only [Nat.add_sub_cancel] at *; omega) | omega)⟩
      ·skip
       refine ql_no rfl rfl rfl rfl rfl rfl ?_
       refine ql_no rfl rfl rfl rfl rfl rfl ?_
       refine ql_no rfl rfl rfl rfl rfl rfl ?_
       refine ql_no rfl rfl rfl rfl rfl rfl ?_
       refine ql_no rfl rfl rfl rfl rfl rfl ?_
       refine ql_no rfl rfl rfl rfl rfl rfl ?_
       refine ql_no rfl rfl rfl rfl rfl rfl ?_
       refine ql_no rfl rfl rfl rfl rfl rfl ?_
       refine ql_no rfl rfl rfl rfl rfl rfl ?_
       refine ql_no rfl rfl rfl rfl rfl rfl ?_
       refine ql_go rfl rfl rfl rfl ?_
       refine ql_val rfl (fun _ hq19 => ex_pick_f rfl rfl) ?_
       refine ql_val rfl (fun _ hq19 => ex_pick_f rfl rfl) ?_
       refine ql_nil (fun wq18 hq19 => nrm_then ?_)
       have hE28 := hE16.then hq19
       have hE29 := hE17.then hq19
       refine cw_false rfl ?_
       refine cw_skip (nrm_block (nrm_then ?_))
       refine cw_region ?_
       refine wl_val rfl (ex_add_i64 rfl rfl (by omega) (by omega)) ?_
       refine wl_m ?_
       refine wl_nil (nrm_same ?_)
       refine ⟨k + 1, ?_, ⟨rfl, trivial⟩, ⟨rfl, rfl, rfl, trivial⟩, hE29, ?_⟩
       · omega
       ·skip
        exact ⟨by omega, hok.succ hk' (by omega) (by omega) (by omega) (fun j hj e => by first | (subst e; simp only [Nat.add_sub_cancel] at *; omega) | omega)⟩
  ·skip
   refine cw_exit (ex_then (ex_then (ex_here (nrm_then ?_))))
   refine cw_seq ?_
   refine cw_quiet (by kernel_rfl) (by kernel_rfl) ?_
   refine ql_val rfl (fun _ hq31 => ex_move rfl) ?_
   refine ql_val rfl (fun _ hq31 => ex_len_slice rfl Try.underlying22 rfl) ?_
   refine ql_val rfl (fun _ hq31 => ex_neq rfl rfl) ?_
   refine ql_val rfl (fun _ hq31 => ex_move rfl) ?_
   refine ql_split (t := 47) rfl (fun hs47 => ?_) (fun hs47 => ?_)
   ·skip
    refine ql_no rfl rfl rfl rfl rfl rfl ?_
    refine ql_no rfl rfl rfl rfl rfl rfl ?_
    refine ql_no rfl rfl rfl rfl rfl rfl ?_
    refine ql_no rfl rfl rfl rfl rfl rfl ?_
    refine ql_no rfl rfl rfl rfl rfl rfl ?_
    refine ql_no rfl rfl rfl rfl rfl rfl ?_
    refine ql_no rfl rfl rfl rfl rfl rfl ?_
    refine ql_no rfl rfl rfl rfl rfl rfl ?_
    refine ql_no rfl rfl rfl rfl rfl rfl ?_
    refine ql_val rfl (fun _ hq31 => ex_pick_t rfl rfl) ?_
    refine ql_val rfl (fun _ hq31 => ex_assign rfl) ?_
    refine ql_nil (fun wq30 hq31 => nrm_then ?_)
    have hE32 := hE3.then hq31
    have hE33 := hV2.then hq31
    refine cw_ret (body_ret1 rfl rfl ?_)
    exact ⟨true, rfl, by simp only [true_iff]; exact hok.ok (by omega) (fun h => by omega), hE32⟩
   ·skip
    obtain ⟨b3, o3, vs3, ha3, hb3, -, hc3, rfl⟩ := e1 0 (by omega)
    refine ql_go rfl rfl rfl rfl ?_
    refine ql_val rfl (fun _ hq31 => ex_move rfl) ?_
    refine ql_go rfl rfl rfl rfl ?_
    refine ql_val rfl (fun _ hq31 => ex_indexAddrZ (n := 0) (by rw [ha3]; rfl) rfl rfl Try.elem22 (by omega)) ?_
    refine ql_go rfl rfl rfl rfl ?_
    refine ql_val rfl (fun _ hq31 => ex_fieldAddr rfl Try.fld51_0) ?_
    refine ql_go rfl rfl rfl rfl ?_
    refine ql_val rfl (fun _ hq31 => ex_load1 rfl Try.agg21 ((hc3.evo (hE3.then hq31) (by simp)) 0 _ rfl)) ?_
    refine ql_go rfl rfl rfl rfl ?_
    refine ql_val rfl (fun _ hq31 => ex_move rfl) ?_
    refine ql_go rfl rfl rfl rfl ?_
    refine ql_val rfl (fun _ hq31 => ex_indexAddrZ (n := 0) (by rw [ha3]; rfl) rfl rfl Try.elem22 (by omega)) ?_
    refine ql_go rfl rfl rfl rfl ?_
    refine ql_val rfl (fun _ hq31 => ex_fieldAddr rfl Try.fld51_1) ?_
    refine ql_go rfl rfl rfl rfl ?_
    refine ql_val rfl (fun _ hq31 => ex_load1 rfl Try.agg21 ((hc3.evo (hE3.then hq31) (by simp)) 1 _ rfl)) ?_
    refine ql_go rfl rfl rfl rfl ?_
    refine ql_val rfl (fun _ hq31 => ex_neq rfl rfl) ?_
    refine ql_val rfl (fun _ hq31 => ex_pick_f rfl rfl) ?_
    refine ql_val rfl (fun _ hq31 => ex_assign rfl) ?_
    refine ql_nil (fun wq30 hq31 => nrm_then ?_)
    have hE34 := hE3.then hq31
    have hE35 := hV2.then hq31
    refine cw_ret (body_ret1 rfl rfl ?_)
    exact ⟨_, rfl, by simp only [decide_eq_true_eq]; exact ⟨fun h => hok.ok (by omega) (fun _ => h), fun h => h.2 (by omega)⟩, hE34⟩


theorem bool_of {p : Prop} {b : Bool} (h : ¬ p) : b = false → (b = true ↔ p) := by intro hb; subst hb; simp [h]
theorem name_new {ns : List ByteArray} {nm : ByteArray} (h : ∀ j (hj : j < ns.length), nm = ByteArray.mk #[] ∨ ¬ ns[j] = nm) : nm = ByteArray.mk #[] ∨ nm ∉ ns := by
  by_cases h0 : nm = ByteArray.mk #[]
  · exact .inl h0
  · right
    intro hm
    obtain ⟨j, hj, he⟩ := List.getElem_of_mem hm
    rcases h j hj with h1 | h1
    · exact h0 h1
    · exact h1 he
theorem own_new {w : World} {jb : Nat} {ob ob' : Option Nat} (hne : ∀ g, ob = some g → g ≠ jb) (hlt : jb < w.heap.size) (h : ob' = ob ∨ ∃ g, ob' = some g ∧ w.heap.size ≤ g) : ∀ g, ob' = some g → g ≠ jb := fun g hg => by
  rcases h with rfl | ⟨g', h1, h2⟩
  · exact hne g hg
  · rw [hg] at h1; cases h1; omega

theorem group_ok {w : World} {jb : Nat} {st : St} {a : Option Addr} {c : Nat} {ob : Option Nat} {cap : Int} {nm : ByteArray} (hJ : JAt w 79 jb st a c ob) (hl : st.2.length ≤ 100000) (hn : nm.size ≤ 140737488351232) :
    Calls Try.prog 79 #[.pointer (some ⟨jb, 0, none⟩), .int .i64 cap, .string nm] w (Ret fun v w' => ∃ b, v = .bool b ∧ (b = true ↔ GroupOk cap nm st.2) ∧ Evo (jb :: ob.toList) w w' ∧
      (b = true → ∃ a' c' ob', JAt w' 79 jb (st.1, st.2 ++ [nm]) a' c' ob' ∧ (ob' = ob ∨ ∃ g, ob' = some g ∧ w.heap.size ≤ g))) := by
  obtain ⟨hB, hO, hne⟩ := hJ
  have hAJN : Apart (some jb) ob := fun g h1 h2 => by cases h1; exact hne jb h2 rfl
  have hlt := blk_lt hB
  refine calls_of_cw (N := 60) Try.func79 rfl rfl rfl ?_
  refine cw_seq ?_
  refine cw_region ?_
  refine wl_a ?_
  refine wl_nil (nrm_then ?_)
  refine cw_seq ?_
  refine cw_seq ?_
  refine cw_region ?_
  refine wl_m ?_
  refine wl_m ?_
  refine wl_val rfl (ex_nilCheck rfl) ?_
  refine wl_val rfl (ex_fieldAddr rfl Try.fld79_1) ?_
  refine wl_val rfl (ex_load1 rfl Try.agg27 (cell_nth hB rfl)) ?_
  refine wl_val rfl (ex_len_slice rfl Try.underlying27 rfl) ?_
  refine wl_val rfl (ex_add_i64 rfl rfl (by omega) (by omega)) ?_
  refine wl_val rfl (ex_neq rfl rfl) ?_
  refine wl_m ?_
  refine wl_split (t := 18) rfl (fun hs18 => ?_) (fun hs18 => ?_)
  ·skip
   refine wl_n ?_
   refine wl_n ?_
   refine wl_pt ?_
   refine wl_nil (nrm_then ?_)
   refine cw_true rfl ?_
   refine cw_seq ?_
   refine cw_region ?_
   refine wl_a ?_
   refine wl_nil (nrm_then ?_)
   refine cw_ret (ret_then (body_ret1 rfl rfl ?_))
   exact ⟨false, rfl, by simp only [Bool.false_eq_true, false_iff]; exact fun h => hs18 h.1, (Evo.refl (jb :: ob.toList) w), fun h => by cases h⟩
  ·skip
   refine wl_g ?_
   refine wl_m ?_
   refine wl_g ?_
   refine wl_val rfl (ex_gtr rfl rfl) ?_
   refine wl_pf ?_
   refine wl_nil (nrm_then ?_)
   refine cw_if rfl (fun hc21 => ?_) (fun hc21 => ?_)
   ·skip
    refine cw_seq ?_
    refine cw_region ?_
    refine wl_a ?_
    refine wl_nil (nrm_then ?_)
    refine cw_ret (ret_then (body_ret1 rfl rfl ?_))
    exact ⟨false, rfl, by simp only [Bool.false_eq_true, false_iff]; exact fun h => by have := h.2.1; omega, (Evo.refl (jb :: ob.toList) w), fun h => by cases h⟩
   ·skip
    refine cw_skip (nrm_then ?_)
    refine cw_seq ?_
    refine cw_seq ?_
    refine cw_region ?_
    refine wl_m ?_
    refine wl_val rfl (ex_len_str rfl Try.underlying9 rfl) ?_
    refine wl_m ?_
    refine wl_nil (nrm_then ?_)
    refine cw_block ?_
    refine cw_loop (α := Nat) (0) (fun k => [(24, .int .i64 (k : Nat))]) [(0, _), (2, _), (23, _)] (fun k wr => Evo [] w wr ∧ (k ≤ nm.size ∧ ∀ j, j < k → wordN (sb nm j))) (fun k => nm.size - k) ⟨rfl, trivial⟩ ⟨rfl, rfl, rfl, trivial⟩ ⟨Evo.refl _ _, ⟨Nat.zero_le _, fun j h => by omega⟩⟩ ?_
    rintro k wr1 ⟨hV2, ⟨hk, hok⟩⟩
    show CW _ _ _ _ [(24, _), (0, _), (2, _), (23, _)] _
    have hE3 := (Evo.refl (jb :: ob.toList) w).then hV2
    have hB4 := hV2.blk0 hB
    have hO5 := hO.evo0 hV2
    refine cw_seq ?_
    refine cw_region ?_
    refine wl_val rfl (ex_lss rfl rfl) ?_
    refine wl_nil (nrm_then ?_)
    refine cw_seq ?_
    refine cw_if rfl (fun hc25 => ?_) (fun hc25 => ?_)
    ·skip
     have hk' : k < nm.size := by omega
     refine cw_skip (nrm_then ?_)
     refine cw_seq ?_
     refine cw_block ?_
     refine cw_seq ?_
     refine cw_region ?_
     refine wl_m ?_
     refine wl_a ?_
     refine wl_nil (nrm_then ?_)
     refine cw_seq ?_
     refine cw_region ?_
     refine wl_m ?_
     refine wl_m ?_
     refine wl_val rfl (ex_sidx (n := k) rfl rfl Try.underlying9 rfl (by omega)) ?_
     refine wl_call1 (vs := [_]) Try.goes95 rfl (word_ok (sb nm k)) rfl ?_
     rintro _ w6 ⟨rfl, hw7⟩
     have hE8 := hE3.then hw7
     have hE9 := hV2.then hw7
     have hB10 := hw7.blk0 hB4
     have hO11 := hO5.evo0 hw7
     refine wl_val rfl (ex_not rfl) ?_
     refine wl_nil (nrm_then ?_)
     refine cw_if rfl (fun hc31 => ?_) (fun hc31 => ?_)
     ·skip
      refine cw_seq ?_
      refine cw_region ?_
      refine wl_a ?_
      refine wl_nil (nrm_then ?_)
      refine cw_ret (ret_block (ret_then (ret_then (ret_block (ret_then (body_ret1 rfl rfl ?_))))))
      exact ⟨false, rfl, by simp only [Bool.false_eq_true, false_iff]; exact fun h => hc31 (h.2.2.1 k hk'), hE8, fun h => by cases h⟩
     ·skip
      refine cw_skip (nrm_block (nrm_then ?_))
      refine cw_region ?_
      refine wl_val rfl (ex_add_i64 rfl rfl (by omega) (by omega)) ?_
      refine wl_m ?_
      refine wl_nil (nrm_same ?_)
      refine ⟨k + 1, ?_, ⟨rfl, trivial⟩, ⟨rfl, rfl, rfl, trivial⟩, hE9, ?_⟩
      · omega
      ·skip
       refine ⟨by omega, fun j hj => ?_⟩
       by_cases e : j < k
       · exact hok j e
       · obtain rfl : j = k := by omega
         exact Classical.not_not.1 hc31
    ·skip
     refine cw_exit (ex_then (ex_then (ex_here (nrm_then ?_))))
     refine cw_seq ?_
     refine cw_seq ?_
     refine cw_region ?_
     refine wl_m ?_
     refine wl_val rfl (ex_nilCheck rfl) ?_
     refine wl_val rfl (ex_fieldAddr rfl Try.fld79_1) ?_
     refine wl_val rfl (ex_load1 rfl Try.agg27 (cell_nth hB4 rfl)) ?_
     refine wl_val rfl (ex_len_slice rfl Try.underlying27 rfl) ?_
     refine wl_m ?_
     refine wl_nil (nrm_then ?_)
     refine cw_block ?_
     refine cw_loop (α := Nat) (0) (fun l => [(38, .int .i64 (l : Nat))]) [(0, _), (2, _), (36, _), (37, _)] (fun l wr => Evo [] wr1 wr ∧ (l ≤ st.2.length ∧ ∀ j (hj : j < st.2.length), j < l → nm = ByteArray.mk #[] ∨ ¬ st.2[j] = nm)) (fun l => st.2.length - l) ⟨rfl, trivial⟩ ⟨rfl, rfl, rfl, rfl, trivial⟩ ⟨Evo.refl _ _, ⟨Nat.zero_le _, fun j _ h => by omega⟩⟩ ?_
     rintro l wr12 ⟨hV13, ⟨hl2, hno⟩⟩
     show CW _ _ _ _ [(38, _), (0, _), (2, _), (36, _), (37, _)] _
     have hE14 := hE3.then hV13
     have hE15 := hV2.then hV13
     have hB16 := hV13.blk0 hB4
     have hO17 := hO5.evo0 hV13
     refine cw_seq ?_
     refine cw_region ?_
     refine wl_val rfl (ex_lss rfl rfl) ?_
     refine wl_nil (nrm_then ?_)
     refine cw_seq ?_
     refine cw_if rfl (fun hc39 => ?_) (fun hc39 => ?_)
     ·skip
      have hl' : l < st.2.length := by omega
      obtain ⟨gN, haN, hcN⟩ := own_strs hO17 (by omega)
      refine cw_skip (nrm_then ?_)
      refine cw_seq ?_
      refine cw_block ?_
      refine cw_seq ?_
      refine cw_region ?_
      refine wl_val rfl (ex_indexAddr (n := l) (by rw [haN]; rfl) rfl Try.elem27 (by omega)) ?_
      refine wl_val rfl (ex_load1 rfl Try.agg9 (hcN l (by omega))) ?_
      refine wl_a ?_
      refine wl_nil (nrm_then ?_)
      refine cw_seq ?_
      refine cw_region ?_
      refine wl_m ?_
      refine wl_val rfl (ex_neqs rfl rfl) ?_
      refine wl_m ?_
      refine wl_split (t := 44) rfl (fun hs44 => ?_) (fun hs44 => ?_)
      ·skip
       refine wl_g ?_
       refine wl_m ?_
       refine wl_g ?_
       refine wl_m ?_
       refine wl_g ?_
       refine wl_val rfl (ex_eqs rfl rfl) ?_
       refine wl_pt ?_
       refine wl_nil (nrm_then ?_)
       refine cw_if rfl (fun hc48 => ?_) (fun hc48 => ?_)
       ·skip
        refine cw_seq ?_
        refine cw_region ?_
        refine wl_a ?_
        refine wl_nil (nrm_then ?_)
        refine cw_ret (ret_block (ret_then (ret_then (ret_block (ret_then (body_ret1 rfl rfl ?_))))))
        exact ⟨false, rfl, by simp only [Bool.false_eq_true, false_iff]; exact fun h => by rcases h.2.2.2 with h1 | h1; exact hs44 h1; exact h1 (hc48 ▸ List.getElem_mem hl'), hE14, fun h => by cases h⟩
       ·skip
        refine cw_skip (nrm_block (nrm_then ?_))
        refine cw_region ?_
        refine wl_val rfl (ex_add_i64 rfl rfl (by omega) (by omega)) ?_
        refine wl_m ?_
        refine wl_nil (nrm_same ?_)
        refine ⟨l + 1, ?_, ⟨rfl, trivial⟩, ⟨rfl, rfl, rfl, rfl, trivial⟩, hV13, ?_⟩
        · omega
        ·skip
         refine ⟨by omega, fun j hj hjl => ?_⟩
         by_cases e : j < l
         · exact hno j hj e
         · obtain rfl : j = l := by omega
           exact .inr hc48
      ·skip
       refine wl_n ?_
       refine wl_n ?_
       refine wl_n ?_
       refine wl_pf ?_
       refine wl_nil (nrm_then ?_)
       refine cw_false rfl ?_
       refine cw_skip (nrm_block (nrm_then ?_))
       refine cw_region ?_
       refine wl_val rfl (ex_add_i64 rfl rfl (by omega) (by omega)) ?_
       refine wl_m ?_
       refine wl_nil (nrm_same ?_)
       refine ⟨l + 1, ?_, ⟨rfl, trivial⟩, ⟨rfl, rfl, rfl, rfl, trivial⟩, hV13, ?_⟩
       · omega
       ·skip
        refine ⟨by omega, fun j hj hjl => ?_⟩
        by_cases e : j < l
        · exact hno j hj e
        · exact .inl (Classical.not_not.1 hs44)
     ·skip
      refine cw_exit (ex_then (ex_then (ex_here (nrm_then ?_))))
      refine cw_seq ?_
      refine cw_region ?_
      refine wl_m ?_
      refine wl_m ?_
      refine wl_val rfl (ex_nilCheck rfl) ?_
      refine wl_val rfl (ex_fieldAddr rfl Try.fld79_1) ?_
      refine wl_val rfl (ex_load1 rfl Try.agg27 (cell_nth hB16 rfl)) ?_
      refine wl_m ?_
      refine wl_bslice (vs := [_]) rfl Try.slice27 rfl rfl rfl rfl fun b18 w19 hO20 hs21 hw22 => ?_
      have hA23 := Apart.new (Lt.blk hB16) hs21
      have hA24 := Apart.new (Lt.own hO17) hs21
      have hG25 := Ge.new hE14 hs21
      have hG26 := Ge.new hE15 hs21
      have hG27 := Ge.new hV13 hs21
      have hE28 := hE14.then hw22
      have hE29 := hE15.then hw22
      have hE30 := hV13.then hw22
      have hB31 := hw22.blk0 hB16
      have hO32 := hO17.evo0 hw22
      have hszg := (hE28).size
      refine wl_append rfl rfl rfl rfl Try.app27_27 hO32 (Src.ofOwn hO20 ⟨by first | rfl | assumption, trivial⟩) (by omega) fun a2 c2 w35 ob2 hO2 hw38 hob39 => ?_
      have hA40 := hAJN.app (Lt.blk hB31) hob39
      have hA41 := hA24.symm.app (Lt.own hO20) hob39
      have hE42 := hE28.step hw38 (fun y hy => .inl (List.mem_cons_of_mem _ hy))
      have hB45 := hw38.blk hB31 hAJN.nmem
      have hO46 := hO20.evo hw38 hA24.symm.own
      have hob2 : ob2 = ob ∨ ∃ g, ob2 = some g ∧ w.heap.size ≤ g := hob39.imp id (fun ⟨g, h1, h2⟩ => ⟨g, h1, Nat.le_trans hszg h2⟩)
      refine wl_val rfl (ex_nilCheck rfl) ?_
      refine wl_val rfl (ex_fieldAddr rfl Try.fld79_1) ?_
      refine wl_store1 rfl rfl (by first | rfl | assumption) Try.size27 hB45 rfl fun w47 hB48 hw49 => ?_
      have hE50 := hE42.step hw49 (fun y hy => .inl (by rw [List.mem_singleton.1 hy]; exact List.mem_cons_self ..))
      have hO51 := hO46.evo hw49 hA23.symm.own1
      have hO52 := hO2.evo hw49 hA40.symm.own1
      try simp only [List.setIfInBounds_toArray, List.set_cons_zero, List.set_cons_succ, Nat.reduceAdd, Nat.zero_add, Nat.add_zero] at hB48
      refine wl_nil (nrm_then ?_)
      refine cw_seq ?_
      refine cw_region ?_
      refine wl_a ?_
      refine wl_nil (nrm_then ?_)
      refine cw_ret (body_ret1 rfl rfl ?_)
      refine ⟨true, rfl, ?_, hE50, fun _ => ⟨a2, c2, ob2, ⟨?_, ?_, own_new hne hlt hob2⟩, hob2⟩⟩
      · simp only [true_iff]; exact ⟨Classical.not_not.1 hs18, by omega, fun j hj => hok j (by omega), name_new (fun j hj => hno j hj (by omega))⟩
      · simp only [List.length_append, List.length_cons, List.length_nil]; exact hB48
      · rw [List.map_append, List.length_append]; exact hO52

end Go.Proofs.Ytgboffefbpligaa
