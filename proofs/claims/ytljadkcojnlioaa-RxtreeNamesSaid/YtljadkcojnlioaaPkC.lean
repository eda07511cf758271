/- Names: part 3 of 6 of what the law rests on. -/
import Derived.Test.YtljadkcojnlioaaPkB
namespace Go.Proofs.Ytljadkcojnlioaa
open Go.Proofs
open Go.W Go.RowKit
attribute [local irreducible] Decidable.decide
set_option linter.unusedSimpArgs false
set_option linter.unusedVariables false
theorem Try.agg23 : aggB Try.prog 23 = some false := by kernel_rfl
theorem Try.elem23 : elemB Try.prog 23 = some 9 := by kernel_rfl
theorem Try.fld25_0 : fieldB Try.prog 25 0 = some 0 := by kernel_rfl
theorem Try.fld25_1 : fieldB Try.prog 25 1 = some 1 := by kernel_rfl
theorem Try.fld25_2 : fieldB Try.prog 25 2 = some 2 := by kernel_rfl
theorem Try.fld25_3 : fieldB Try.prog 25 3 = some 3 := by kernel_rfl
theorem Try.fld25_4 : fieldB Try.prog 25 4 = some 4 := by kernel_rfl
theorem Try.fld25_5 : fieldB Try.prog 25 5 = some 5 := by kernel_rfl
theorem Try.fld25_6 : fieldB Try.prog 25 6 = some 6 := by kernel_rfl
theorem Try.fld25_7 : fieldB Try.prog 25 7 = some 7 := by kernel_rfl
theorem Try.fld25_8 : fieldB Try.prog 25 8 = some 8 := by kernel_rfl
theorem Try.goes20 : Goes Try.prog 20 := ⟨_, Try.func20, by kernel_rfl, by kernel_rfl⟩
theorem Try.goes21 : Goes Try.prog 21 := ⟨_, Try.func21, by kernel_rfl, by kernel_rfl⟩
theorem Try.size22 : sizeB Try.prog 22 = some 1 := by kernel_rfl
theorem Try.size23 : sizeB Try.prog 23 = some 1 := by kernel_rfl
theorem Try.size4 : sizeB Try.prog 4 = some 1 := by kernel_rfl
theorem Try.size9 : sizeB Try.prog 9 = some 1 := by kernel_rfl
theorem nmem2 {b jb : Nat} {ob : Option Nat} (h1 : Apart (some b) (some jb)) (h2 : Apart (some b) ob) : b ∉ jb :: ob.toList := fun hm => by
  rcases List.mem_cons.1 hm with h | h
  · exact h1 b rfl (by rw [h])
  · exact h2 b rfl (by simpa using h)
theorem bracketed_ok {w : World} (a k : Int) : Calls Try.prog 17 #[.int .i64 a, .int .i64 k] w (Ret fun v w' => v = .bool (decide (Brk a k)) ∧ Evo [] w w') := by
  refine calls_of_cw (N := 38) Try.func17 rfl rfl rfl ?_; refine cw_seq ?_; refine cw_region ?_; refine wl_a ?_; refine wl_nil (nrm_then ?_); refine cw_seq ?_; refine cw_seq ?_; refine cw_region ?_; refine wl_m ?_; refine wl_nil (nrm_then ?_); refine cw_block ?_; refine cw_seq ?_; refine cw_region ?_; refine wl_val rfl (ex_eql rfl rfl) ?_; refine wl_a ?_; refine wl_nil (nrm_then ?_); refine cw_if rfl (fun hc6 => ?_) (fun hc6 => ?_)
  ·skip
   refine cw_seq ?_; refine cw_region ?_; refine wl_m ?_; refine wl_val rfl (ex_eql rfl rfl) ?_; refine wl_a ?_; refine wl_nil (nrm_then ?_); refine cw_ret (ret_block (ret_then (body_ret1 rfl rfl ?_))); refine ⟨congrArg Value.bool (Bool.eq_iff_iff.2 ?_), (Evo.refl [] w)⟩
   simp only [decide_eq_true_eq, Bool.false_eq_true, Bool.true_eq_false, true_iff, false_iff, eq_self, iff_true]; unfold Brk; omega
  ·skip
   refine cw_seq ?_; refine cw_region ?_; refine wl_val rfl (ex_eql rfl rfl) ?_; refine wl_a ?_; refine wl_nil (nrm_then ?_); refine cw_if rfl (fun hc10 => ?_) (fun hc10 => ?_)
   ·skip
    refine cw_seq ?_; refine cw_region ?_; refine wl_m ?_; refine wl_val rfl (ex_eql rfl rfl) ?_; refine wl_m ?_; refine wl_split (t := 14) rfl (fun hs14 => ?_) (fun hs14 => ?_)
    ·skip
     refine wl_n ?_; refine wl_n ?_; refine wl_pt ?_; refine wl_m ?_; refine wl_n ?_; refine wl_n ?_; refine wl_pt ?_; refine wl_a ?_; refine wl_nil (nrm_then ?_); refine cw_ret (ret_block (ret_then (body_ret1 rfl rfl ?_))); refine ⟨congrArg Value.bool (Bool.eq_iff_iff.2 ?_), (Evo.refl [] w)⟩
     simp only [decide_eq_true_eq, Bool.false_eq_true, Bool.true_eq_false, true_iff, false_iff, eq_self, iff_true]; unfold Brk; omega
    ·skip
     refine wl_g ?_; refine wl_m ?_; refine wl_g ?_; refine wl_val rfl (ex_eql rfl rfl) ?_; refine wl_pf ?_; refine wl_m ?_; refine wl_split (t := 18) rfl (fun hs18 => ?_) (fun hs18 => ?_)
     ·skip
      refine wl_n ?_; refine wl_n ?_; refine wl_pt ?_; refine wl_a ?_; refine wl_nil (nrm_then ?_); refine cw_ret (ret_block (ret_then (body_ret1 rfl rfl ?_))); refine ⟨congrArg Value.bool (Bool.eq_iff_iff.2 ?_), (Evo.refl [] w)⟩
      simp only [decide_eq_true_eq, Bool.false_eq_true, Bool.true_eq_false, true_iff, false_iff, eq_self, iff_true]; unfold Brk; omega
     ·skip
      refine wl_g ?_; refine wl_m ?_; refine wl_g ?_; refine wl_val rfl (ex_eql rfl rfl) ?_; refine wl_pf ?_; refine wl_a ?_; refine wl_nil (nrm_then ?_); refine cw_ret (ret_block (ret_then (body_ret1 rfl rfl ?_))); refine ⟨congrArg Value.bool (Bool.eq_iff_iff.2 ?_), (Evo.refl [] w)⟩
      simp only [decide_eq_true_eq, Bool.false_eq_true, Bool.true_eq_false, true_iff, false_iff, eq_self, iff_true]; unfold Brk; omega
   ·skip
    refine cw_seq ?_; refine cw_region ?_; refine wl_val rfl (ex_eql rfl rfl) ?_; refine wl_a ?_; refine wl_nil (nrm_then ?_); refine cw_if rfl (fun hc22 => ?_) (fun hc22 => ?_)
    ·skip
     refine cw_seq ?_; refine cw_region ?_; refine wl_m ?_; refine wl_val rfl (ex_eql rfl rfl) ?_; refine wl_m ?_; refine wl_split (t := 26) rfl (fun hs26 => ?_) (fun hs26 => ?_)
     ·skip
      refine wl_n ?_; refine wl_n ?_; refine wl_pt ?_; refine wl_m ?_; refine wl_n ?_; refine wl_n ?_; refine wl_pt ?_; refine wl_m ?_; refine wl_n ?_; refine wl_n ?_; refine wl_pt ?_; refine wl_a ?_; refine wl_nil (nrm_then ?_); refine cw_ret (ret_block (ret_then (body_ret1 rfl rfl ?_))); refine ⟨congrArg Value.bool (Bool.eq_iff_iff.2 ?_), (Evo.refl [] w)⟩
      simp only [decide_eq_true_eq, Bool.false_eq_true, Bool.true_eq_false, true_iff, false_iff, eq_self, iff_true]; unfold Brk; omega
     ·skip
      refine wl_g ?_; refine wl_m ?_; refine wl_g ?_; refine wl_val rfl (ex_eql rfl rfl) ?_; refine wl_pf ?_; refine wl_m ?_; refine wl_split (t := 30) rfl (fun hs30 => ?_) (fun hs30 => ?_)
      ·skip
       refine wl_n ?_; refine wl_n ?_; refine wl_pt ?_; refine wl_m ?_; refine wl_n ?_; refine wl_n ?_; refine wl_pt ?_; refine wl_a ?_; refine wl_nil (nrm_then ?_); refine cw_ret (ret_block (ret_then (body_ret1 rfl rfl ?_))); refine ⟨congrArg Value.bool (Bool.eq_iff_iff.2 ?_), (Evo.refl [] w)⟩
       simp only [decide_eq_true_eq, Bool.false_eq_true, Bool.true_eq_false, true_iff, false_iff, eq_self, iff_true]; unfold Brk; omega
      ·skip
       refine wl_g ?_; refine wl_m ?_; refine wl_g ?_; refine wl_val rfl (ex_eql rfl rfl) ?_; refine wl_pf ?_; refine wl_m ?_; refine wl_split (t := 34) rfl (fun hs34 => ?_) (fun hs34 => ?_)
       ·skip
        refine wl_n ?_; refine wl_n ?_; refine wl_pt ?_; refine wl_a ?_; refine wl_nil (nrm_then ?_); refine cw_ret (ret_block (ret_then (body_ret1 rfl rfl ?_))); refine ⟨congrArg Value.bool (Bool.eq_iff_iff.2 ?_), (Evo.refl [] w)⟩
        simp only [decide_eq_true_eq, Bool.false_eq_true, Bool.true_eq_false, true_iff, false_iff, eq_self, iff_true]; unfold Brk; omega
       ·skip
        refine wl_g ?_; refine wl_m ?_; refine wl_g ?_; refine wl_val rfl (ex_eql rfl rfl) ?_; refine wl_pf ?_; refine wl_a ?_; refine wl_nil (nrm_then ?_); refine cw_ret (ret_block (ret_then (body_ret1 rfl rfl ?_))); refine ⟨congrArg Value.bool (Bool.eq_iff_iff.2 ?_), (Evo.refl [] w)⟩
        simp only [decide_eq_true_eq, Bool.false_eq_true, Bool.true_eq_false, true_iff, false_iff, eq_self, iff_true]; unfold Brk; omega
    ·skip
     refine cw_skip (nrm_block (nrm_then ?_)); refine cw_seq ?_; refine cw_region ?_; refine wl_a ?_; refine wl_nil (nrm_then ?_); refine cw_ret (body_ret1 rfl rfl ?_); refine ⟨congrArg Value.bool (Bool.eq_iff_iff.2 ?_), (Evo.refl [] w)⟩
     simp only [decide_eq_true_eq, Bool.false_eq_true, Bool.true_eq_false, true_iff, false_iff, eq_self, iff_true]; unfold Brk; omega
set_option maxHeartbeats 4000000 in
theorem fields_ok {n : Nat} {w : World} {jb : Nat} {st : St} {a : Option Addr} {c : Nat} {ob : Option Nat} {vs : List Value} {x : Rx} (hJ : JAt w 47 jb st a c ob) (hx : RRx n (jb :: ob.toList) w vs x) (hl : st.2.length ≤ 100000) :
    Calls Try.prog 16 #[.pointer (some ⟨jb, 0, none⟩), .agg vs.toArray] w (Ret fun v w' => ∃ b, v = .bool b ∧ (b = true ↔ NodeP x ∧ (x.kind = 7 → GroupOk x.cap x.name st.2)) ∧ Evo (jb :: ob.toList) w w' ∧
      (b = true → ∃ a' c' ob', JAt w' 47 jb (st.1, if x.kind = 7 then st.2 ++ [x.name] else st.2) a' c' ob' ∧ (ob' = ob ∨ ∃ g, ob' = some g ∧ w.heap.size ≤ g))) := by
  obtain ⟨hB, hO, hne⟩ := hJ
  have hAJN : Apart (some jb) ob := fun g h1 h2 => by cases h1; exact hne jb h2 rfl
  have hlt := blk_lt hB
  cases n with
  | zero => exact hx.elim
  | succ n =>
  obtain ⟨vr, vk, rfl, hr, hk, bl1, bl2, bl3⟩ := hx; obtain ⟨ka, kc, rfl, hkc, e1⟩ := hk; have hr0 := hr; obtain ⟨ra, rc, rfl, hrc, e2⟩ := hr; refine calls_of_cw (N := 127) Try.func16 rfl rfl rfl ?_; refine cw_seq ?_; refine cw_region ?_; refine wl_boxA rfl rfl fun b3 w1 hB2 hs3 hw4 => ?_; have hsz_b3 := hs3; have hA5 := Apart.new (Lt.blk hB) hs3; have hA6 := Apart.new (Lt.own hO) hs3; have hG7 := Ge.new (Evo.refl (jb :: ob.toList) w) hs3; have hE8 := (Evo.refl (jb :: ob.toList) w).then hw4; have hB9 := hw4.blk0 hB; have hO10 := hO.evo0 hw4; refine wl_a ?_; refine wl_nil (nrm_then ?_); refine cw_seq ?_; refine cw_region ?_; refine wl_val rfl (ex_loadBlk rfl Try.agg25 Try.size25 hB2 rfl) ?_; refine wl_alloc rfl Try.zero25 fun b5 w11 hB12 hs13 hw14 => ?_; have hsz_b5 := hs13; have hA15 := Apart.new (Lt.blk hB9) hs13; have hA16 := Apart.new (Lt.own hO10) hs13; have hA17 := Apart.new (Lt.blk hB2) hs13; have hG18 := Ge.new hE8 hs13; have hE19 := hE8.then hw14; have hB20 := hw14.blk0 hB9; have hO21 := hO10.evo0 hw14; have hB22 := hw14.blk0 hB2; refine wl_storeBlk rfl rfl Try.size25 hB12 rfl rfl ⟨by first | rfl | assumption, by first | rfl | assumption, by first | rfl | assumption, by first | rfl | assumption, by first | rfl | assumption, by first | rfl | assumption, by first | rfl | assumption, by first | rfl | assumption, by first | rfl | assumption, trivial⟩ fun w23 hB24 hw25 => ?_; have hE26 := hE19.step hw25 hG18.mem1; have hB27 := hw25.blk hB20 hA15.nmem1; have hO28 := hO21.evo hw25 hA16.own1; have hB29 := hw25.blk hB22 hA17.nmem1
  try simp only [List.setIfInBounds_toArray, List.set_cons_zero, List.set_cons_succ, Nat.reduceAdd, Nat.zero_add, Nat.add_zero] at hB24
  refine wl_nil (nrm_then ?_); refine cw_seq ?_; refine cw_region ?_; refine wl_val rfl (ex_fieldAddr rfl Try.fld25_0) ?_; refine wl_store1 rfl rfl (by first | rfl | assumption) Try.size3 hB24 rfl fun w30 hB31 hw32 => ?_; have hE33 := hE26.step hw32 hG18.mem1; have hB34 := hw32.blk hB27 hA15.nmem1; have hO35 := hO28.evo hw32 hA16.own1; have hB36 := hw32.blk hB29 hA17.nmem1
  try simp only [List.setIfInBounds_toArray, List.set_cons_zero, List.set_cons_succ, Nat.reduceAdd, Nat.zero_add, Nat.add_zero] at hB31
  refine wl_val rfl (ex_fieldAddr rfl Try.fld25_8) ?_; refine wl_store1 rfl rfl (by first | rfl | assumption) Try.size23 hB31 rfl fun w37 hB38 hw39 => ?_; have hE40 := hE33.step hw39 hG18.mem1; have hB41 := hw39.blk hB34 hA15.nmem1; have hO42 := hO35.evo hw39 hA16.own1; have hB43 := hw39.blk hB36 hA17.nmem1
  try simp only [List.setIfInBounds_toArray, List.set_cons_zero, List.set_cons_succ, Nat.reduceAdd, Nat.zero_add, Nat.add_zero] at hB38
  refine wl_nil (nrm_then ?_); refine cw_seq ?_; refine cw_region ?_; refine wl_a ?_; refine wl_nil (nrm_then ?_); refine cw_seq ?_; refine cw_seq ?_; refine cw_region ?_; refine wl_val rfl (ex_fieldAddr rfl Try.fld25_0) ?_; refine wl_val rfl (ex_load1 rfl Try.agg3 (cell_nth hB43 rfl)) ?_; refine wl_nil (nrm_then ?_); refine cw_block ?_; refine cw_seq ?_; refine cw_cut (α := Bool) (fun z => [(12, .bool z)]) [(0, _), (3, _), (4, _), (5, _), (6, _), (11, _)] (fun z wr => Evo [] w37 wr ∧ (z = true ↔ (x.kind = 1 ∨ (8 ≤ x.kind ∧ x.kind ≤ 13)))) ⟨rfl, rfl, rfl, rfl, rfl, rfl, trivial⟩ ?_ ?_
  ·skip
   refine cw_seq ?_; refine cw_region ?_; refine wl_val rfl (ex_eql rfl rfl) ?_; refine wl_a ?_; refine wl_nil (nrm_then ?_); refine cw_if rfl (fun hc12 => ?_) (fun hc12 => ?_)
   ·skip
    refine cw_skip (nrm_same ?_); refine ⟨(decide (x.kind = 1)), ⟨rfl, trivial⟩, ⟨rfl, rfl, rfl, rfl, rfl, rfl, trivial⟩, (Evo.refl [] w37), ?_⟩
    simp only [decide_eq_true_eq]; omega
   ·skip
    refine cw_seq ?_; refine cw_region ?_; refine wl_val rfl (ex_eql rfl rfl) ?_; refine wl_a ?_; refine wl_nil (nrm_then ?_); refine cw_if rfl (fun hc12 => ?_) (fun hc12 => ?_)
    ·skip
     refine cw_skip (nrm_same ?_); refine ⟨(decide (x.kind = 8)), ⟨rfl, trivial⟩, ⟨rfl, rfl, rfl, rfl, rfl, rfl, trivial⟩, (Evo.refl [] w37), ?_⟩
     simp only [decide_eq_true_eq]; omega
    ·skip
     refine cw_seq ?_; refine cw_region ?_; refine wl_val rfl (ex_eql rfl rfl) ?_; refine wl_a ?_; refine wl_nil (nrm_then ?_); refine cw_if rfl (fun hc12 => ?_) (fun hc12 => ?_)
     ·skip
      refine cw_skip (nrm_same ?_); refine ⟨(decide (x.kind = 9)), ⟨rfl, trivial⟩, ⟨rfl, rfl, rfl, rfl, rfl, rfl, trivial⟩, (Evo.refl [] w37), ?_⟩
      simp only [decide_eq_true_eq]; omega
     ·skip
      refine cw_seq ?_; refine cw_region ?_; refine wl_val rfl (ex_eql rfl rfl) ?_; refine wl_a ?_; refine wl_nil (nrm_then ?_); refine cw_if rfl (fun hc12 => ?_) (fun hc12 => ?_)
      ·skip
       refine cw_skip (nrm_same ?_); refine ⟨(decide (x.kind = 10)), ⟨rfl, trivial⟩, ⟨rfl, rfl, rfl, rfl, rfl, rfl, trivial⟩, (Evo.refl [] w37), ?_⟩
       simp only [decide_eq_true_eq]; omega
      ·skip
       refine cw_seq ?_; refine cw_region ?_; refine wl_val rfl (ex_eql rfl rfl) ?_; refine wl_a ?_; refine wl_nil (nrm_then ?_); refine cw_if rfl (fun hc12 => ?_) (fun hc12 => ?_)
       ·skip
        refine cw_skip (nrm_same ?_); refine ⟨(decide (x.kind = 11)), ⟨rfl, trivial⟩, ⟨rfl, rfl, rfl, rfl, rfl, rfl, trivial⟩, (Evo.refl [] w37), ?_⟩
        simp only [decide_eq_true_eq]; omega
       ·skip
        refine cw_seq ?_; refine cw_region ?_; refine wl_val rfl (ex_eql rfl rfl) ?_; refine wl_a ?_; refine wl_nil (nrm_then ?_); refine cw_if rfl (fun hc12 => ?_) (fun hc12 => ?_)
        ·skip
         refine cw_skip (nrm_same ?_); refine ⟨(decide (x.kind = 12)), ⟨rfl, trivial⟩, ⟨rfl, rfl, rfl, rfl, rfl, rfl, trivial⟩, (Evo.refl [] w37), ?_⟩
         simp only [decide_eq_true_eq]; omega
        ·skip
         refine cw_region ?_; refine wl_val rfl (ex_eql rfl rfl) ?_; refine wl_a ?_; refine wl_nil (nrm_same ?_); refine ⟨(decide (x.kind = 13)), ⟨rfl, trivial⟩, ⟨rfl, rfl, rfl, rfl, rfl, rfl, trivial⟩, (Evo.refl [] w37), ?_⟩
         simp only [decide_eq_true_eq]; omega
  ·skip
   rintro z w44 ⟨hV45, hz⟩; refine nrm_then ?_; show CW _ _ _ _ [(12, _), (0, _), (3, _), (4, _), (5, _), (6, _), (11, _)] _; have hE46 := hE40.then hV45; have hB47 := hV45.blk0 hB41; have hO48 := hO42.evo0 hV45; have hB49 := hV45.blk0 hB43; have hB50 := hV45.blk0 hB38; refine cw_ifb rfl (fun hc12 => ?_) (fun hc12 => ?_)
   ·skip
    subst hc12; have hk12 := hz.1 rfl; refine cw_skip (nrm_block (nrm_then ?_)); refine cw_seq ?_; refine cw_region ?_; refine wl_val rfl (ex_fieldAddr rfl Try.fld25_8) ?_; refine wl_val rfl (ex_load1 rfl Try.agg23 (cell_nth hB49 rfl)) ?_; refine wl_val rfl (ex_len_slice rfl Try.underlying23 rfl) ?_; refine wl_m ?_; refine wl_val rfl (ex_eql rfl rfl) ?_; refine wl_m ?_; refine wl_split (t := 91) rfl (fun hs91 => ?_) (fun hs91 => ?_)
    ·skip
     refine wl_g ?_; refine wl_val rfl (ex_fieldAddr rfl Try.fld25_1) ?_; refine wl_g ?_; refine wl_val rfl (ex_load1 rfl Try.agg21 (cell_nth hB50 rfl)) ?_; refine wl_g ?_; refine wl_val rfl (ex_eql rfl rfl) ?_; refine wl_pt ?_; refine wl_m ?_; refine wl_split (t := 96) rfl (fun hs96 => ?_) (fun hs96 => ?_)
     ·skip
      refine wl_g ?_; refine wl_val rfl (ex_fieldAddr rfl Try.fld25_2) ?_; refine wl_g ?_; refine wl_val rfl (ex_load1 rfl Try.agg22 (cell_nth hB50 rfl)) ?_; refine wl_g ?_; refine wl_val rfl (ex_len_slice rfl Try.underlying22 rfl) ?_; refine wl_g ?_; refine wl_val rfl (ex_eql rfl rfl) ?_; refine wl_pt ?_; refine wl_m ?_; refine wl_split (t := 102) rfl (fun hs102 => ?_) (fun hs102 => ?_)
      ·skip
       refine wl_g ?_; refine wl_val rfl (ex_fieldAddr rfl Try.fld25_3) ?_; refine wl_g ?_; refine wl_val rfl (ex_load1 rfl Try.agg3 (cell_nth hB50 rfl)) ?_; refine wl_g ?_; refine wl_val rfl (ex_eql rfl rfl) ?_; refine wl_pt ?_; refine wl_m ?_; refine wl_split (t := 107) rfl (fun hs107 => ?_) (fun hs107 => ?_)
       ·skip
        refine wl_g ?_; refine wl_val rfl (ex_fieldAddr rfl Try.fld25_4) ?_; refine wl_g ?_; refine wl_val rfl (ex_load1 rfl Try.agg3 (cell_nth hB50 rfl)) ?_; refine wl_g ?_; refine wl_val rfl (ex_eql rfl rfl) ?_; refine wl_pt ?_; refine wl_m ?_; refine wl_split (t := 112) rfl (fun hs112 => ?_) (fun hs112 => ?_)
        ·skip
         refine wl_g ?_; refine wl_val rfl (ex_fieldAddr rfl Try.fld25_5) ?_; refine wl_g ?_; refine wl_val rfl (ex_load1 rfl Try.agg4 (cell_nth hB50 rfl)) ?_; refine wl_g ?_; refine wl_val rfl (ex_notb rfl) ?_; refine wl_pt ?_; refine wl_m ?_; refine wl_splitb (t := 117) rfl (fun hs117 => ?_) (fun hs117 => ?_)
         ·skip
          refine wl_g ?_; refine wl_val rfl (ex_fieldAddr rfl Try.fld25_6) ?_; refine wl_g ?_; refine wl_val rfl (ex_load1 rfl Try.agg3 (cell_nth hB50 rfl)) ?_; refine wl_g ?_; refine wl_val rfl (ex_eql rfl rfl) ?_; refine wl_pt ?_; refine wl_m ?_; refine wl_split (t := 122) rfl (fun hs122 => ?_) (fun hs122 => ?_)
          ·skip
           refine wl_g ?_; refine wl_val rfl (ex_fieldAddr rfl Try.fld25_7) ?_; refine wl_g ?_; refine wl_val rfl (ex_load1 rfl Try.agg9 (cell_nth hB50 rfl)) ?_; refine wl_g ?_; refine wl_val rfl (ex_eqs rfl rfl) ?_; refine wl_pt ?_; refine wl_a ?_; refine wl_nil (nrm_then ?_); refine cw_ret (body_ret1 rfl rfl ?_)
           have hlz : x.kind = 6 ∨ x.lazy = false := by first | (left; omega) | (right; simpa using hs117)
           refine ⟨_, rfl, ?_, hE46, fun hb => ?_⟩
           · simp only [decide_eq_true_eq]
             constructor
             · intro hnm
               exact ⟨(nodeP_iff x).2 (by constructor <;> first | omega | (right; assumption) | (left; omega) | exact hlz | exact .inr hnm | (intro hk; exact hcb.1 (by simpa using hc36)) | (intro hk; exfalso; omega)), by intro hk; exfalso; omega⟩
             · intro hh; obtain ⟨hh, hh2⟩ := hh; have hf := (nodeP_iff x).1 hh; exact hf.zn.resolve_left (by omega)
           · rw [if_neg (by omega)]; exact ⟨a, c, ob, ⟨hB47, hO48, hne⟩, .inl rfl⟩
          ·skip
           refine wl_n ?_; refine wl_n ?_; refine wl_n ?_; refine wl_pf ?_; refine wl_a ?_; refine wl_nil (nrm_then ?_); refine cw_ret (body_ret1 rfl rfl ?_)
           exact ⟨false, rfl, by simp only [Bool.false_eq_true, false_iff]; intro hh; obtain ⟨hh, hh2⟩ := hh; have hf := (nodeP_iff x).1 hh; (have f1 := hf.zc; omega), hE46, fun h => by cases h⟩
         ·skip
          refine wl_n ?_; refine wl_n ?_; refine wl_n ?_; refine wl_pf ?_; refine wl_m ?_; refine wl_n ?_; refine wl_n ?_; refine wl_n ?_; refine wl_pf ?_; refine wl_a ?_; refine wl_nil (nrm_then ?_); refine cw_ret (body_ret1 rfl rfl ?_)
          exact ⟨false, rfl, by simp only [Bool.false_eq_true, false_iff]; intro hh; obtain ⟨hh, hh2⟩ := hh; have hf := (nodeP_iff x).1 hh; (first | (rcases hf.zl with h | h; omega; rw [h] at hs117; cases hs117; done) | cases hs117), hE46, fun h => by cases h⟩
        ·skip
         refine wl_n ?_; refine wl_n ?_; refine wl_n ?_; refine wl_pf ?_; refine wl_m ?_; refine wl_n ?_; refine wl_n ?_; refine wl_n ?_; refine wl_pf ?_; refine wl_m ?_; refine wl_n ?_; refine wl_n ?_; refine wl_n ?_; refine wl_pf ?_; refine wl_a ?_; refine wl_nil (nrm_then ?_); refine cw_ret (body_ret1 rfl rfl ?_)
         exact ⟨false, rfl, by simp only [Bool.false_eq_true, false_iff]; intro hh; obtain ⟨hh, hh2⟩ := hh; have hf := (nodeP_iff x).1 hh; (have f1 := hf.zm2; omega), hE46, fun h => by cases h⟩
       ·skip
        refine wl_n ?_; refine wl_n ?_; refine wl_n ?_; refine wl_pf ?_; refine wl_m ?_; refine wl_n ?_; refine wl_n ?_; refine wl_n ?_; refine wl_pf ?_; refine wl_m ?_; refine wl_n ?_; refine wl_n ?_; refine wl_n ?_; refine wl_pf ?_; refine wl_m ?_; refine wl_n ?_; refine wl_n ?_; refine wl_n ?_; refine wl_pf ?_; refine wl_a ?_; refine wl_nil (nrm_then ?_); refine cw_ret (body_ret1 rfl rfl ?_)
        exact ⟨false, rfl, by simp only [Bool.false_eq_true, false_iff]; intro hh; obtain ⟨hh, hh2⟩ := hh; have hf := (nodeP_iff x).1 hh; (have f1 := hf.zm1; omega), hE46, fun h => by cases h⟩
      ·skip
       refine wl_n ?_; refine wl_n ?_; refine wl_n ?_; refine wl_pf ?_; refine wl_m ?_; refine wl_n ?_; refine wl_n ?_; refine wl_n ?_; refine wl_pf ?_; refine wl_m ?_; refine wl_n ?_; refine wl_n ?_; refine wl_n ?_; refine wl_pf ?_; refine wl_m ?_; refine wl_n ?_; refine wl_n ?_; refine wl_n ?_; refine wl_pf ?_; refine wl_m ?_; refine wl_n ?_; refine wl_n ?_; refine wl_n ?_; refine wl_pf ?_; refine wl_a ?_; refine wl_nil (nrm_then ?_); refine cw_ret (body_ret1 rfl rfl ?_)
       exact ⟨false, rfl, by simp only [Bool.false_eq_true, false_iff]; intro hh; obtain ⟨hh, hh2⟩ := hh; have hf := (nodeP_iff x).1 hh; (have f1 := hf.zg; omega), hE46, fun h => by cases h⟩
     ·skip
      refine wl_n ?_; refine wl_n ?_; refine wl_n ?_; refine wl_n ?_; refine wl_pf ?_; refine wl_m ?_; refine wl_n ?_; refine wl_n ?_; refine wl_n ?_; refine wl_pf ?_; refine wl_m ?_; refine wl_n ?_; refine wl_n ?_; refine wl_n ?_; refine wl_pf ?_; refine wl_m ?_; refine wl_n ?_; refine wl_n ?_; refine wl_n ?_; refine wl_pf ?_; refine wl_m ?_; refine wl_n ?_; refine wl_n ?_; refine wl_n ?_; refine wl_pf ?_; refine wl_m ?_; refine wl_n ?_; refine wl_n ?_; refine wl_n ?_; refine wl_pf ?_; refine wl_a ?_; refine wl_nil (nrm_then ?_); refine cw_ret (body_ret1 rfl rfl ?_)
      exact ⟨false, rfl, by simp only [Bool.false_eq_true, false_iff]; intro hh; obtain ⟨hh, hh2⟩ := hh; have hf := (nodeP_iff x).1 hh; (have f1 := hf.zr; omega), hE46, fun h => by cases h⟩
    ·skip
     refine wl_n ?_; refine wl_n ?_; refine wl_n ?_; refine wl_pf ?_; refine wl_m ?_; refine wl_n ?_; refine wl_n ?_; refine wl_n ?_; refine wl_n ?_; refine wl_pf ?_; refine wl_m ?_; refine wl_n ?_; refine wl_n ?_; refine wl_n ?_; refine wl_pf ?_; refine wl_m ?_; refine wl_n ?_; refine wl_n ?_; refine wl_n ?_; refine wl_pf ?_; refine wl_m ?_; refine wl_n ?_; refine wl_n ?_; refine wl_n ?_; refine wl_pf ?_; refine wl_m ?_; refine wl_n ?_; refine wl_n ?_; refine wl_n ?_; refine wl_pf ?_; refine wl_m ?_; refine wl_n ?_; refine wl_n ?_; refine wl_n ?_; refine wl_pf ?_; refine wl_a ?_; refine wl_nil (nrm_then ?_); refine cw_ret (body_ret1 rfl rfl ?_)
     exact ⟨false, rfl, by simp only [Bool.false_eq_true, false_iff]; intro hh; obtain ⟨hh, hh2⟩ := hh; have hf := (nodeP_iff x).1 hh; (have f1 := hf.two; have f2 := hf.rep4; have f3 := hf.grp; have f4 := hf.leaf; omega), hE46, fun h => by cases h⟩
   ·skip
    subst hc12
    have hk12 : ¬ (x.kind = 1 ∨ (8 ≤ x.kind ∧ x.kind ≤ 13)) := fun h => by have := hz.2 h; cases this
    refine cw_seq ?_; refine cw_region ?_; refine wl_val rfl (ex_eql rfl rfl) ?_; refine wl_a ?_; refine wl_nil (nrm_then ?_); refine cw_if rfl (fun hc20 => ?_) (fun hc20 => ?_)
    ·skip
     refine cw_seq ?_; refine cw_seq ?_; refine cw_region ?_; refine wl_val rfl (ex_fieldAddr rfl Try.fld25_1) ?_; refine wl_val rfl (ex_load1 rfl Try.agg21 (cell_nth hB49 rfl)) ?_; refine wl_val rfl (ex_lss rfl rfl) ?_; refine wl_m ?_; refine wl_split (t := 25) rfl (fun hs25 => ?_) (fun hs25 => ?_)
     ·skip
      refine wl_n ?_; refine wl_n ?_; refine wl_n ?_; refine wl_pt ?_; refine wl_nil (nrm_then ?_); refine cw_true rfl ?_; refine cw_seq ?_; refine cw_region ?_; refine wl_a ?_; refine wl_nil (nrm_then ?_); refine cw_ret (ret_then (ret_block (ret_then (body_ret1 rfl rfl ?_))))
      exact ⟨false, rfl, by simp only [Bool.false_eq_true, false_iff]; intro hh; obtain ⟨hh, hh2⟩ := hh; have hf := (nodeP_iff x).1 hh; (have f1 := hf.lit1; have f2 := hf.lit2; omega), hE46, fun h => by cases h⟩
     ·skip
      refine wl_g ?_; refine wl_val rfl (ex_fieldAddr rfl Try.fld25_1) ?_; refine wl_g ?_; refine wl_val rfl (ex_load1 rfl Try.agg21 (cell_nth hB49 rfl)) ?_; refine wl_g ?_; refine wl_val rfl (ex_gtr rfl rfl) ?_; refine wl_pf ?_; refine wl_nil (nrm_then ?_); refine cw_if rfl (fun hc29 => ?_) (fun hc29 => ?_)
      ·skip
       refine cw_seq ?_; refine cw_region ?_; refine wl_a ?_; refine wl_nil (nrm_then ?_); refine cw_ret (ret_then (ret_block (ret_then (body_ret1 rfl rfl ?_))))
       exact ⟨false, rfl, by simp only [Bool.false_eq_true, false_iff]; intro hh; obtain ⟨hh, hh2⟩ := hh; have hf := (nodeP_iff x).1 hh; (have f1 := hf.lit1; have f2 := hf.lit2; omega), hE46, fun h => by cases h⟩
      ·skip
       refine cw_skip (nrm_then ?_); refine cw_region ?_; refine wl_val rfl (ex_fieldAddr rfl Try.fld25_1) ?_; refine wl_store1 rfl rfl (by first | rfl | assumption) Try.size21 hB50 rfl fun w51 hB52 hw53 => ?_; have hE54 := hE46.step hw53 hG18.mem1; have hB55 := hw53.blk hB47 hA15.nmem1; have hO56 := hO48.evo hw53 hA16.own1; have hB57 := hw53.blk hB49 hA17.nmem1
       try simp only [List.setIfInBounds_toArray, List.set_cons_zero, List.set_cons_succ, Nat.reduceAdd, Nat.zero_add, Nat.add_zero] at hB52
       refine wl_nil (nrm_block (nrm_then ?_)); refine cw_seq ?_; refine cw_region ?_; refine wl_val rfl (ex_fieldAddr rfl Try.fld25_8) ?_; refine wl_val rfl (ex_load1 rfl Try.agg23 (cell_nth hB57 rfl)) ?_; refine wl_val rfl (ex_len_slice rfl Try.underlying23 rfl) ?_; refine wl_m ?_; refine wl_val rfl (ex_eql rfl rfl) ?_; refine wl_m ?_; refine wl_split (t := 91) rfl (fun hs91 => ?_) (fun hs91 => ?_)
       ·skip
        refine wl_g ?_; refine wl_val rfl (ex_fieldAddr rfl Try.fld25_1) ?_; refine wl_g ?_; refine wl_val rfl (ex_load1 rfl Try.agg21 (cell_nth hB52 rfl)) ?_; refine wl_g ?_; refine wl_val rfl (ex_eql rfl rfl) ?_; refine wl_pt ?_; refine wl_m ?_; refine wl_split (t := 96) rfl (fun hs96 => ?_) (fun hs96 => ?_)
        ·skip
         refine wl_g ?_; refine wl_val rfl (ex_fieldAddr rfl Try.fld25_2) ?_; refine wl_g ?_; refine wl_val rfl (ex_load1 rfl Try.agg22 (cell_nth hB52 rfl)) ?_; refine wl_g ?_; refine wl_val rfl (ex_len_slice rfl Try.underlying22 rfl) ?_; refine wl_g ?_; refine wl_val rfl (ex_eql rfl rfl) ?_; refine wl_pt ?_; refine wl_m ?_; refine wl_split (t := 102) rfl (fun hs102 => ?_) (fun hs102 => ?_)
         ·skip
          refine wl_g ?_; refine wl_val rfl (ex_fieldAddr rfl Try.fld25_3) ?_; refine wl_g ?_; refine wl_val rfl (ex_load1 rfl Try.agg3 (cell_nth hB52 rfl)) ?_; refine wl_g ?_; refine wl_val rfl (ex_eql rfl rfl) ?_; refine wl_pt ?_; refine wl_m ?_; refine wl_split (t := 107) rfl (fun hs107 => ?_) (fun hs107 => ?_)
          ·skip
           refine wl_g ?_; refine wl_val rfl (ex_fieldAddr rfl Try.fld25_4) ?_; refine wl_g ?_; refine wl_val rfl (ex_load1 rfl Try.agg3 (cell_nth hB52 rfl)) ?_; refine wl_g ?_; refine wl_val rfl (ex_eql rfl rfl) ?_; refine wl_pt ?_; refine wl_m ?_; refine wl_split (t := 112) rfl (fun hs112 => ?_) (fun hs112 => ?_)
           ·skip
            refine wl_g ?_; refine wl_val rfl (ex_fieldAddr rfl Try.fld25_5) ?_; refine wl_g ?_; refine wl_val rfl (ex_load1 rfl Try.agg4 (cell_nth hB52 rfl)) ?_; refine wl_g ?_; refine wl_val rfl (ex_notb rfl) ?_; refine wl_pt ?_; refine wl_m ?_; refine wl_splitb (t := 117) rfl (fun hs117 => ?_) (fun hs117 => ?_)
            ·skip
             refine wl_g ?_; refine wl_val rfl (ex_fieldAddr rfl Try.fld25_6) ?_; refine wl_g ?_; refine wl_val rfl (ex_load1 rfl Try.agg3 (cell_nth hB52 rfl)) ?_; refine wl_g ?_; refine wl_val rfl (ex_eql rfl rfl) ?_; refine wl_pt ?_; refine wl_m ?_; refine wl_split (t := 122) rfl (fun hs122 => ?_) (fun hs122 => ?_)
             ·skip
              refine wl_g ?_; refine wl_val rfl (ex_fieldAddr rfl Try.fld25_7) ?_; refine wl_g ?_; refine wl_val rfl (ex_load1 rfl Try.agg9 (cell_nth hB52 rfl)) ?_; refine wl_g ?_; refine wl_val rfl (ex_eqs rfl rfl) ?_; refine wl_pt ?_; refine wl_a ?_; refine wl_nil (nrm_then ?_); refine cw_ret (body_ret1 rfl rfl ?_)
              have hlz : x.kind = 6 ∨ x.lazy = false := by first | (left; omega) | (right; simpa using hs117)
              refine ⟨_, rfl, ?_, hE54, fun hb => ?_⟩
              · simp only [decide_eq_true_eq]
                constructor
                · intro hnm
                  exact ⟨(nodeP_iff x).2 (by constructor <;> first | omega | (right; assumption) | (left; omega) | exact hlz | exact .inr hnm | (intro hk; exact hcb.1 (by simpa using hc36)) | (intro hk; exfalso; omega)), by intro hk; exfalso; omega⟩
                · intro hh; obtain ⟨hh, hh2⟩ := hh; have hf := (nodeP_iff x).1 hh; exact hf.zn.resolve_left (by omega)
              · rw [if_neg (by omega)]; exact ⟨a, c, ob, ⟨hB55, hO56, hne⟩, .inl rfl⟩
             ·skip
              refine wl_n ?_; refine wl_n ?_; refine wl_n ?_; refine wl_pf ?_; refine wl_a ?_; refine wl_nil (nrm_then ?_); refine cw_ret (body_ret1 rfl rfl ?_)
              exact ⟨false, rfl, by simp only [Bool.false_eq_true, false_iff]; intro hh; obtain ⟨hh, hh2⟩ := hh; have hf := (nodeP_iff x).1 hh; (have f1 := hf.zc; omega), hE54, fun h => by cases h⟩
            ·skip
             refine wl_n ?_; refine wl_n ?_; refine wl_n ?_; refine wl_pf ?_; refine wl_m ?_; refine wl_n ?_; refine wl_n ?_; refine wl_n ?_; refine wl_pf ?_; refine wl_a ?_; refine wl_nil (nrm_then ?_); refine cw_ret (body_ret1 rfl rfl ?_)
             exact ⟨false, rfl, by simp only [Bool.false_eq_true, false_iff]; intro hh; obtain ⟨hh, hh2⟩ := hh; have hf := (nodeP_iff x).1 hh; (first | (rcases hf.zl with h | h; omega; rw [h] at hs117; cases hs117; done) | cases hs117), hE54, fun h => by cases h⟩
           ·skip
            refine wl_n ?_; refine wl_n ?_; refine wl_n ?_; refine wl_pf ?_; refine wl_m ?_; refine wl_n ?_; refine wl_n ?_; refine wl_n ?_; refine wl_pf ?_; refine wl_m ?_; refine wl_n ?_; refine wl_n ?_; refine wl_n ?_; refine wl_pf ?_; refine wl_a ?_; refine wl_nil (nrm_then ?_); refine cw_ret (body_ret1 rfl rfl ?_)
            exact ⟨false, rfl, by simp only [Bool.false_eq_true, false_iff]; intro hh; obtain ⟨hh, hh2⟩ := hh; have hf := (nodeP_iff x).1 hh; (have f1 := hf.zm2; omega), hE54, fun h => by cases h⟩
          ·skip
           refine wl_n ?_; refine wl_n ?_; refine wl_n ?_; refine wl_pf ?_; refine wl_m ?_; refine wl_n ?_; refine wl_n ?_; refine wl_n ?_; refine wl_pf ?_; refine wl_m ?_; refine wl_n ?_; refine wl_n ?_; refine wl_n ?_; refine wl_pf ?_; refine wl_m ?_; refine wl_n ?_; refine wl_n ?_; refine wl_n ?_; refine wl_pf ?_; refine wl_a ?_; refine wl_nil (nrm_then ?_); refine cw_ret (body_ret1 rfl rfl ?_)
           exact ⟨false, rfl, by simp only [Bool.false_eq_true, false_iff]; intro hh; obtain ⟨hh, hh2⟩ := hh; have hf := (nodeP_iff x).1 hh; (have f1 := hf.zm1; omega), hE54, fun h => by cases h⟩
         ·skip
          refine wl_n ?_; refine wl_n ?_; refine wl_n ?_; refine wl_pf ?_; refine wl_m ?_; refine wl_n ?_; refine wl_n ?_; refine wl_n ?_; refine wl_pf ?_; refine wl_m ?_; refine wl_n ?_; refine wl_n ?_; refine wl_n ?_; refine wl_pf ?_; refine wl_m ?_; refine wl_n ?_; refine wl_n ?_; refine wl_n ?_; refine wl_pf ?_; refine wl_m ?_; refine wl_n ?_; refine wl_n ?_; refine wl_n ?_; refine wl_pf ?_; refine wl_a ?_; refine wl_nil (nrm_then ?_); refine cw_ret (body_ret1 rfl rfl ?_)
          exact ⟨false, rfl, by simp only [Bool.false_eq_true, false_iff]; intro hh; obtain ⟨hh, hh2⟩ := hh; have hf := (nodeP_iff x).1 hh; (have f1 := hf.zg; omega), hE54, fun h => by cases h⟩
        ·skip
         refine wl_n ?_; refine wl_n ?_; refine wl_n ?_; refine wl_n ?_; refine wl_pf ?_; refine wl_m ?_; refine wl_n ?_; refine wl_n ?_; refine wl_n ?_; refine wl_pf ?_; refine wl_m ?_; refine wl_n ?_; refine wl_n ?_; refine wl_n ?_; refine wl_pf ?_; refine wl_m ?_; refine wl_n ?_; refine wl_n ?_; refine wl_n ?_; refine wl_pf ?_; refine wl_m ?_; refine wl_n ?_; refine wl_n ?_; refine wl_n ?_; refine wl_pf ?_; refine wl_m ?_; refine wl_n ?_; refine wl_n ?_; refine wl_n ?_; refine wl_pf ?_; refine wl_a ?_; refine wl_nil (nrm_then ?_); refine cw_ret (body_ret1 rfl rfl ?_)
         exact ⟨false, rfl, by simp only [Bool.false_eq_true, false_iff]; intro hh; obtain ⟨hh, hh2⟩ := hh; have hf := (nodeP_iff x).1 hh; (have f1 := hf.zr; omega), hE54, fun h => by cases h⟩
       ·skip
        refine wl_n ?_; refine wl_n ?_; refine wl_n ?_; refine wl_pf ?_; refine wl_m ?_; refine wl_n ?_; refine wl_n ?_; refine wl_n ?_; refine wl_n ?_; refine wl_pf ?_; refine wl_m ?_; refine wl_n ?_; refine wl_n ?_; refine wl_n ?_; refine wl_pf ?_; refine wl_m ?_; refine wl_n ?_; refine wl_n ?_; refine wl_n ?_; refine wl_pf ?_; refine wl_m ?_; refine wl_n ?_; refine wl_n ?_; refine wl_n ?_; refine wl_pf ?_; refine wl_m ?_; refine wl_n ?_; refine wl_n ?_; refine wl_n ?_; refine wl_pf ?_; refine wl_m ?_; refine wl_n ?_; refine wl_n ?_; refine wl_n ?_; refine wl_pf ?_; refine wl_a ?_; refine wl_nil (nrm_then ?_); refine cw_ret (body_ret1 rfl rfl ?_)
        exact ⟨false, rfl, by simp only [Bool.false_eq_true, false_iff]; intro hh; obtain ⟨hh, hh2⟩ := hh; have hf := (nodeP_iff x).1 hh; (have f1 := hf.two; have f2 := hf.rep4; have f3 := hf.grp; have f4 := hf.leaf; omega), hE54, fun h => by cases h⟩
    ·skip
     refine cw_seq ?_; refine cw_region ?_; refine wl_val rfl (ex_eql rfl rfl) ?_; refine wl_a ?_; refine wl_nil (nrm_then ?_); refine cw_if rfl (fun hc31 => ?_) (fun hc31 => ?_)
     ·skip
      refine cw_seq ?_; refine cw_seq ?_; refine cw_region ?_; refine wl_val rfl (ex_fieldAddr rfl Try.fld25_2) ?_; refine wl_val rfl (ex_load1 rfl Try.agg22 (cell_nth hB49 rfl)) ?_; refine wl_call1 (vs := [_]) Try.goes20 rfl (classFine_ok (RSl.evo RRg.pers hE46 hr0) bl1) rfl ?_; rintro _ w58 ⟨cb, rfl, hcb, hw59⟩; have hE60 := hE46.then hw59; have hB61 := hw59.blk0 hB47; have hO62 := hO48.evo0 hw59; have hB63 := hw59.blk0 hB49; have hB64 := hw59.blk0 hB50; refine wl_val rfl (ex_notb rfl) ?_; refine wl_nil (nrm_then ?_); refine cw_ifb rfl (fun hc36 => ?_) (fun hc36 => ?_)
      ·skip
       refine cw_seq ?_; refine cw_region ?_; refine wl_a ?_; refine wl_nil (nrm_then ?_); refine cw_ret (ret_then (ret_block (ret_then (body_ret1 rfl rfl ?_))))
       exact ⟨false, rfl, by simp only [Bool.false_eq_true, false_iff]; intro hh; obtain ⟨hh, hh2⟩ := hh; have hf := (nodeP_iff x).1 hh; (rw [hcb.2 (hf.cls (by omega))] at hc36; cases hc36), hE60, fun h => by cases h⟩
      ·skip
       refine cw_skip (nrm_then ?_); refine cw_region ?_; refine wl_val rfl (ex_fieldAddr rfl Try.fld25_2) ?_; refine wl_store1 rfl rfl (by first | rfl | assumption) Try.size22 hB64 rfl fun w65 hB66 hw67 => ?_; have hE68 := hE60.step hw67 hG18.mem1; have hB69 := hw67.blk hB61 hA15.nmem1; have hO70 := hO62.evo hw67 hA16.own1; have hB71 := hw67.blk hB63 hA17.nmem1
       try simp only [List.setIfInBounds_toArray, List.set_cons_zero, List.set_cons_succ, Nat.reduceAdd, Nat.zero_add, Nat.add_zero] at hB66
       refine wl_nil (nrm_block (nrm_then ?_)); refine cw_seq ?_; refine cw_region ?_; refine wl_val rfl (ex_fieldAddr rfl Try.fld25_8) ?_; refine wl_val rfl (ex_load1 rfl Try.agg23 (cell_nth hB71 rfl)) ?_; refine wl_val rfl (ex_len_slice rfl Try.underlying23 rfl) ?_; refine wl_m ?_; refine wl_val rfl (ex_eql rfl rfl) ?_; refine wl_m ?_; refine wl_split (t := 91) rfl (fun hs91 => ?_) (fun hs91 => ?_)
       ·skip
        refine wl_g ?_; refine wl_val rfl (ex_fieldAddr rfl Try.fld25_1) ?_; refine wl_g ?_; refine wl_val rfl (ex_load1 rfl Try.agg21 (cell_nth hB66 rfl)) ?_; refine wl_g ?_; refine wl_val rfl (ex_eql rfl rfl) ?_; refine wl_pt ?_; refine wl_m ?_; refine wl_split (t := 96) rfl (fun hs96 => ?_) (fun hs96 => ?_)
        ·skip
         refine wl_g ?_; refine wl_val rfl (ex_fieldAddr rfl Try.fld25_2) ?_; refine wl_g ?_; refine wl_val rfl (ex_load1 rfl Try.agg22 (cell_nth hB66 rfl)) ?_; refine wl_g ?_; refine wl_val rfl (ex_len_slice rfl Try.underlying22 rfl) ?_; refine wl_g ?_; refine wl_val rfl (ex_eql rfl rfl) ?_; refine wl_pt ?_; refine wl_m ?_; refine wl_split (t := 102) rfl (fun hs102 => ?_) (fun hs102 => ?_)
         ·skip
          refine wl_g ?_; refine wl_val rfl (ex_fieldAddr rfl Try.fld25_3) ?_; refine wl_g ?_; refine wl_val rfl (ex_load1 rfl Try.agg3 (cell_nth hB66 rfl)) ?_; refine wl_g ?_; refine wl_val rfl (ex_eql rfl rfl) ?_; refine wl_pt ?_; refine wl_m ?_; refine wl_split (t := 107) rfl (fun hs107 => ?_) (fun hs107 => ?_)
          ·skip
           refine wl_g ?_; refine wl_val rfl (ex_fieldAddr rfl Try.fld25_4) ?_; refine wl_g ?_; refine wl_val rfl (ex_load1 rfl Try.agg3 (cell_nth hB66 rfl)) ?_; refine wl_g ?_; refine wl_val rfl (ex_eql rfl rfl) ?_; refine wl_pt ?_; refine wl_m ?_; refine wl_split (t := 112) rfl (fun hs112 => ?_) (fun hs112 => ?_)
           ·skip
            refine wl_g ?_; refine wl_val rfl (ex_fieldAddr rfl Try.fld25_5) ?_; refine wl_g ?_; refine wl_val rfl (ex_load1 rfl Try.agg4 (cell_nth hB66 rfl)) ?_; refine wl_g ?_; refine wl_val rfl (ex_notb rfl) ?_; refine wl_pt ?_; refine wl_m ?_; refine wl_splitb (t := 117) rfl (fun hs117 => ?_) (fun hs117 => ?_)
            ·skip
             refine wl_g ?_; refine wl_val rfl (ex_fieldAddr rfl Try.fld25_6) ?_; refine wl_g ?_; refine wl_val rfl (ex_load1 rfl Try.agg3 (cell_nth hB66 rfl)) ?_; refine wl_g ?_; refine wl_val rfl (ex_eql rfl rfl) ?_; refine wl_pt ?_; refine wl_m ?_; refine wl_split (t := 122) rfl (fun hs122 => ?_) (fun hs122 => ?_)
             ·skip
              refine wl_g ?_; refine wl_val rfl (ex_fieldAddr rfl Try.fld25_7) ?_; refine wl_g ?_; refine wl_val rfl (ex_load1 rfl Try.agg9 (cell_nth hB66 rfl)) ?_; refine wl_g ?_; refine wl_val rfl (ex_eqs rfl rfl) ?_; refine wl_pt ?_; refine wl_a ?_; refine wl_nil (nrm_then ?_); refine cw_ret (body_ret1 rfl rfl ?_)
              have hlz : x.kind = 6 ∨ x.lazy = false := by first | (left; omega) | (right; simpa using hs117)
              refine ⟨_, rfl, ?_, hE68, fun hb => ?_⟩
              · simp only [decide_eq_true_eq]
                constructor
                · intro hnm
                  exact ⟨(nodeP_iff x).2 (by constructor <;> first | omega | (right; assumption) | (left; omega) | exact hlz | exact .inr hnm | (intro hk; exact hcb.1 (by simpa using hc36)) | (intro hk; exfalso; omega)), by intro hk; exfalso; omega⟩
                · intro hh; obtain ⟨hh, hh2⟩ := hh; have hf := (nodeP_iff x).1 hh; exact hf.zn.resolve_left (by omega)
              · rw [if_neg (by omega)]; exact ⟨a, c, ob, ⟨hB69, hO70, hne⟩, .inl rfl⟩
             ·skip
              refine wl_n ?_; refine wl_n ?_; refine wl_n ?_; refine wl_pf ?_; refine wl_a ?_; refine wl_nil (nrm_then ?_); refine cw_ret (body_ret1 rfl rfl ?_)
              exact ⟨false, rfl, by simp only [Bool.false_eq_true, false_iff]; intro hh; obtain ⟨hh, hh2⟩ := hh; have hf := (nodeP_iff x).1 hh; (have f1 := hf.zc; omega), hE68, fun h => by cases h⟩
            ·skip
             refine wl_n ?_; refine wl_n ?_; refine wl_n ?_; refine wl_pf ?_; refine wl_m ?_; refine wl_n ?_; refine wl_n ?_; refine wl_n ?_; refine wl_pf ?_; refine wl_a ?_; refine wl_nil (nrm_then ?_); refine cw_ret (body_ret1 rfl rfl ?_)
             exact ⟨false, rfl, by simp only [Bool.false_eq_true, false_iff]; intro hh; obtain ⟨hh, hh2⟩ := hh; have hf := (nodeP_iff x).1 hh; (first | (rcases hf.zl with h | h; omega; rw [h] at hs117; cases hs117; done) | cases hs117), hE68, fun h => by cases h⟩
           ·skip
            refine wl_n ?_; refine wl_n ?_; refine wl_n ?_; refine wl_pf ?_; refine wl_m ?_; refine wl_n ?_; refine wl_n ?_; refine wl_n ?_; refine wl_pf ?_; refine wl_m ?_; refine wl_n ?_; refine wl_n ?_; refine wl_n ?_; refine wl_pf ?_; refine wl_a ?_; refine wl_nil (nrm_then ?_); refine cw_ret (body_ret1 rfl rfl ?_)
            exact ⟨false, rfl, by simp only [Bool.false_eq_true, false_iff]; intro hh; obtain ⟨hh, hh2⟩ := hh; have hf := (nodeP_iff x).1 hh; (have f1 := hf.zm2; omega), hE68, fun h => by cases h⟩
          ·skip
           refine wl_n ?_; refine wl_n ?_; refine wl_n ?_; refine wl_pf ?_; refine wl_m ?_; refine wl_n ?_; refine wl_n ?_; refine wl_n ?_; refine wl_pf ?_; refine wl_m ?_; refine wl_n ?_; refine wl_n ?_; refine wl_n ?_; refine wl_pf ?_; refine wl_m ?_; refine wl_n ?_; refine wl_n ?_; refine wl_n ?_; refine wl_pf ?_; refine wl_a ?_; refine wl_nil (nrm_then ?_); refine cw_ret (body_ret1 rfl rfl ?_)
           exact ⟨false, rfl, by simp only [Bool.false_eq_true, false_iff]; intro hh; obtain ⟨hh, hh2⟩ := hh; have hf := (nodeP_iff x).1 hh; (have f1 := hf.zm1; omega), hE68, fun h => by cases h⟩
         ·skip
          refine wl_n ?_; refine wl_n ?_; refine wl_n ?_; refine wl_pf ?_; refine wl_m ?_; refine wl_n ?_; refine wl_n ?_; refine wl_n ?_; refine wl_pf ?_; refine wl_m ?_; refine wl_n ?_; refine wl_n ?_; refine wl_n ?_; refine wl_pf ?_; refine wl_m ?_; refine wl_n ?_; refine wl_n ?_; refine wl_n ?_; refine wl_pf ?_; refine wl_m ?_; refine wl_n ?_; refine wl_n ?_; refine wl_n ?_; refine wl_pf ?_; refine wl_a ?_; refine wl_nil (nrm_then ?_); refine cw_ret (body_ret1 rfl rfl ?_)
          exact ⟨false, rfl, by simp only [Bool.false_eq_true, false_iff]; intro hh; obtain ⟨hh, hh2⟩ := hh; have hf := (nodeP_iff x).1 hh; (have f1 := hf.zg; omega), hE68, fun h => by cases h⟩
        ·skip
         refine wl_n ?_; refine wl_n ?_; refine wl_n ?_; refine wl_n ?_; refine wl_pf ?_; refine wl_m ?_; refine wl_n ?_; refine wl_n ?_; refine wl_n ?_; refine wl_pf ?_; refine wl_m ?_; refine wl_n ?_; refine wl_n ?_; refine wl_n ?_; refine wl_pf ?_; refine wl_m ?_; refine wl_n ?_; refine wl_n ?_; refine wl_n ?_; refine wl_pf ?_; refine wl_m ?_; refine wl_n ?_; refine wl_n ?_; refine wl_n ?_; refine wl_pf ?_; refine wl_m ?_; refine wl_n ?_; refine wl_n ?_; refine wl_n ?_; refine wl_pf ?_; refine wl_a ?_; refine wl_nil (nrm_then ?_); refine cw_ret (body_ret1 rfl rfl ?_)
         exact ⟨false, rfl, by simp only [Bool.false_eq_true, false_iff]; intro hh; obtain ⟨hh, hh2⟩ := hh; have hf := (nodeP_iff x).1 hh; (have f1 := hf.zr; omega), hE68, fun h => by cases h⟩
       ·skip
        refine wl_n ?_; refine wl_n ?_; refine wl_n ?_; refine wl_pf ?_; refine wl_m ?_; refine wl_n ?_; refine wl_n ?_; refine wl_n ?_; refine wl_n ?_; refine wl_pf ?_; refine wl_m ?_; refine wl_n ?_; refine wl_n ?_; refine wl_n ?_; refine wl_pf ?_; refine wl_m ?_; refine wl_n ?_; refine wl_n ?_; refine wl_n ?_; refine wl_pf ?_; refine wl_m ?_; refine wl_n ?_; refine wl_n ?_; refine wl_n ?_; refine wl_pf ?_; refine wl_m ?_; refine wl_n ?_; refine wl_n ?_; refine wl_n ?_; refine wl_pf ?_; refine wl_m ?_; refine wl_n ?_; refine wl_n ?_; refine wl_n ?_; refine wl_pf ?_; refine wl_a ?_; refine wl_nil (nrm_then ?_); refine cw_ret (body_ret1 rfl rfl ?_)
        exact ⟨false, rfl, by simp only [Bool.false_eq_true, false_iff]; intro hh; obtain ⟨hh, hh2⟩ := hh; have hf := (nodeP_iff x).1 hh; (have f1 := hf.two; have f2 := hf.rep4; have f3 := hf.grp; have f4 := hf.leaf; omega), hE68, fun h => by cases h⟩
     ·skip
      refine cw_seq ?_; refine cw_seq ?_; refine cw_region ?_; refine wl_val rfl (ex_eql rfl rfl) ?_; refine wl_a ?_; refine wl_nil (nrm_then ?_); refine cw_if rfl (fun hc38 => ?_) (fun hc38 => ?_)
      ·skip
       refine cw_skip (nrm_then ?_); refine cw_if rfl (fun hc38 => ?_) (fun hc38 => ?_)
       ·skip
        refine cw_region ?_; refine wl_val rfl (ex_fieldAddr rfl Try.fld25_8) ?_; refine wl_val rfl (ex_load1 rfl Try.agg23 (cell_nth hB49 rfl)) ?_; refine wl_val rfl (ex_len_slice rfl Try.underlying23 rfl) ?_; refine wl_val rfl (ex_max rfl rfl) ?_; refine wl_a ?_; refine wl_nil (nrm_block (nrm_then ?_)); refine cw_seq ?_; refine cw_region ?_; refine wl_val rfl (ex_fieldAddr rfl Try.fld25_8) ?_; refine wl_val rfl (ex_load1 rfl Try.agg23 (cell_nth hB49 rfl)) ?_; refine wl_val rfl (ex_len_slice rfl Try.underlying23 rfl) ?_; refine wl_m ?_; refine wl_val rfl (ex_eql rfl rfl) ?_; refine wl_m ?_; refine wl_split (t := 91) rfl (fun hs91 => ?_) (fun hs91 => ?_)
        ·skip
         refine wl_g ?_; refine wl_val rfl (ex_fieldAddr rfl Try.fld25_1) ?_; refine wl_g ?_; refine wl_val rfl (ex_load1 rfl Try.agg21 (cell_nth hB50 rfl)) ?_; refine wl_g ?_; refine wl_val rfl (ex_eql rfl rfl) ?_; refine wl_pt ?_; refine wl_m ?_; refine wl_split (t := 96) rfl (fun hs96 => ?_) (fun hs96 => ?_)
         ·skip
          refine wl_g ?_; refine wl_val rfl (ex_fieldAddr rfl Try.fld25_2) ?_; refine wl_g ?_; refine wl_val rfl (ex_load1 rfl Try.agg22 (cell_nth hB50 rfl)) ?_; refine wl_g ?_; refine wl_val rfl (ex_len_slice rfl Try.underlying22 rfl) ?_; refine wl_g ?_; refine wl_val rfl (ex_eql rfl rfl) ?_; refine wl_pt ?_; refine wl_m ?_; refine wl_split (t := 102) rfl (fun hs102 => ?_) (fun hs102 => ?_)
          ·skip
           refine wl_g ?_; refine wl_val rfl (ex_fieldAddr rfl Try.fld25_3) ?_; refine wl_g ?_; refine wl_val rfl (ex_load1 rfl Try.agg3 (cell_nth hB50 rfl)) ?_; refine wl_g ?_; refine wl_val rfl (ex_eql rfl rfl) ?_; refine wl_pt ?_; refine wl_m ?_; refine wl_split (t := 107) rfl (fun hs107 => ?_) (fun hs107 => ?_)
           ·skip
            refine wl_g ?_; refine wl_val rfl (ex_fieldAddr rfl Try.fld25_4) ?_; refine wl_g ?_; refine wl_val rfl (ex_load1 rfl Try.agg3 (cell_nth hB50 rfl)) ?_; refine wl_g ?_; refine wl_val rfl (ex_eql rfl rfl) ?_; refine wl_pt ?_; refine wl_m ?_; refine wl_split (t := 112) rfl (fun hs112 => ?_) (fun hs112 => ?_)
            ·skip
             refine wl_g ?_; refine wl_val rfl (ex_fieldAddr rfl Try.fld25_5) ?_; refine wl_g ?_; refine wl_val rfl (ex_load1 rfl Try.agg4 (cell_nth hB50 rfl)) ?_; refine wl_g ?_; refine wl_val rfl (ex_notb rfl) ?_; refine wl_pt ?_; refine wl_m ?_; refine wl_splitb (t := 117) rfl (fun hs117 => ?_) (fun hs117 => ?_)
             ·skip
              refine wl_g ?_; refine wl_val rfl (ex_fieldAddr rfl Try.fld25_6) ?_; refine wl_g ?_; refine wl_val rfl (ex_load1 rfl Try.agg3 (cell_nth hB50 rfl)) ?_; refine wl_g ?_; refine wl_val rfl (ex_eql rfl rfl) ?_; refine wl_pt ?_; refine wl_m ?_; refine wl_split (t := 122) rfl (fun hs122 => ?_) (fun hs122 => ?_)
              ·skip
               refine wl_g ?_; refine wl_val rfl (ex_fieldAddr rfl Try.fld25_7) ?_; refine wl_g ?_; refine wl_val rfl (ex_load1 rfl Try.agg9 (cell_nth hB50 rfl)) ?_; refine wl_g ?_; refine wl_val rfl (ex_eqs rfl rfl) ?_; refine wl_pt ?_; refine wl_a ?_; refine wl_nil (nrm_then ?_); refine cw_ret (body_ret1 rfl rfl ?_)
               have hlz : x.kind = 6 ∨ x.lazy = false := by first | (left; omega) | (right; simpa using hs117)
               refine ⟨_, rfl, ?_, hE46, fun hb => ?_⟩
               · simp only [decide_eq_true_eq]
                 constructor
                 · intro hnm
                   exact ⟨(nodeP_iff x).2 (by constructor <;> first | omega | (right; assumption) | (left; omega) | exact hlz | exact .inr hnm | (intro hk; exact hcb.1 (by simpa using hc36)) | (intro hk; exfalso; omega)), by intro hk; exfalso; omega⟩
                 · intro hh; obtain ⟨hh, hh2⟩ := hh; have hf := (nodeP_iff x).1 hh; exact hf.zn.resolve_left (by omega)
               · rw [if_neg (by omega)]; exact ⟨a, c, ob, ⟨hB47, hO48, hne⟩, .inl rfl⟩
              ·skip
               refine wl_n ?_; refine wl_n ?_; refine wl_n ?_; refine wl_pf ?_; refine wl_a ?_; refine wl_nil (nrm_then ?_); refine cw_ret (body_ret1 rfl rfl ?_)
               exact ⟨false, rfl, by simp only [Bool.false_eq_true, false_iff]; intro hh; obtain ⟨hh, hh2⟩ := hh; have hf := (nodeP_iff x).1 hh; (have f1 := hf.zc; omega), hE46, fun h => by cases h⟩
             ·skip
              refine wl_n ?_; refine wl_n ?_; refine wl_n ?_; refine wl_pf ?_; refine wl_m ?_; refine wl_n ?_; refine wl_n ?_; refine wl_n ?_; refine wl_pf ?_; refine wl_a ?_; refine wl_nil (nrm_then ?_); refine cw_ret (body_ret1 rfl rfl ?_)
              exact ⟨false, rfl, by simp only [Bool.false_eq_true, false_iff]; intro hh; obtain ⟨hh, hh2⟩ := hh; have hf := (nodeP_iff x).1 hh; (first | (rcases hf.zl with h | h; omega; rw [h] at hs117; cases hs117; done) | cases hs117), hE46, fun h => by cases h⟩
            ·skip
             refine wl_n ?_; refine wl_n ?_; refine wl_n ?_; refine wl_pf ?_; refine wl_m ?_; refine wl_n ?_; refine wl_n ?_; refine wl_n ?_; refine wl_pf ?_; refine wl_m ?_; refine wl_n ?_; refine wl_n ?_; refine wl_n ?_; refine wl_pf ?_; refine wl_a ?_; refine wl_nil (nrm_then ?_); refine cw_ret (body_ret1 rfl rfl ?_)
             exact ⟨false, rfl, by simp only [Bool.false_eq_true, false_iff]; intro hh; obtain ⟨hh, hh2⟩ := hh; have hf := (nodeP_iff x).1 hh; (have f1 := hf.zm2; omega), hE46, fun h => by cases h⟩
           ·skip
            refine wl_n ?_; refine wl_n ?_; refine wl_n ?_; refine wl_pf ?_; refine wl_m ?_; refine wl_n ?_; refine wl_n ?_; refine wl_n ?_; refine wl_pf ?_; refine wl_m ?_; refine wl_n ?_; refine wl_n ?_; refine wl_n ?_; refine wl_pf ?_; refine wl_m ?_; refine wl_n ?_; refine wl_n ?_; refine wl_n ?_; refine wl_pf ?_; refine wl_a ?_; refine wl_nil (nrm_then ?_); refine cw_ret (body_ret1 rfl rfl ?_)
            exact ⟨false, rfl, by simp only [Bool.false_eq_true, false_iff]; intro hh; obtain ⟨hh, hh2⟩ := hh; have hf := (nodeP_iff x).1 hh; (have f1 := hf.zm1; omega), hE46, fun h => by cases h⟩
          ·skip
           refine wl_n ?_; refine wl_n ?_; refine wl_n ?_; refine wl_pf ?_; refine wl_m ?_; refine wl_n ?_; refine wl_n ?_; refine wl_n ?_; refine wl_pf ?_; refine wl_m ?_; refine wl_n ?_; refine wl_n ?_; refine wl_n ?_; refine wl_pf ?_; refine wl_m ?_; refine wl_n ?_; refine wl_n ?_; refine wl_n ?_; refine wl_pf ?_; refine wl_m ?_; refine wl_n ?_; refine wl_n ?_; refine wl_n ?_; refine wl_pf ?_; refine wl_a ?_; refine wl_nil (nrm_then ?_); refine cw_ret (body_ret1 rfl rfl ?_)
           exact ⟨false, rfl, by simp only [Bool.false_eq_true, false_iff]; intro hh; obtain ⟨hh, hh2⟩ := hh; have hf := (nodeP_iff x).1 hh; (have f1 := hf.zg; omega), hE46, fun h => by cases h⟩
         ·skip
          refine wl_n ?_; refine wl_n ?_; refine wl_n ?_; refine wl_n ?_; refine wl_pf ?_; refine wl_m ?_; refine wl_n ?_; refine wl_n ?_; refine wl_n ?_; refine wl_pf ?_; refine wl_m ?_; refine wl_n ?_; refine wl_n ?_; refine wl_n ?_; refine wl_pf ?_; refine wl_m ?_; refine wl_n ?_; refine wl_n ?_; refine wl_n ?_; refine wl_pf ?_; refine wl_m ?_; refine wl_n ?_; refine wl_n ?_; refine wl_n ?_; refine wl_pf ?_; refine wl_m ?_; refine wl_n ?_; refine wl_n ?_; refine wl_n ?_; refine wl_pf ?_; refine wl_a ?_; refine wl_nil (nrm_then ?_); refine cw_ret (body_ret1 rfl rfl ?_)
          exact ⟨false, rfl, by simp only [Bool.false_eq_true, false_iff]; intro hh; obtain ⟨hh, hh2⟩ := hh; have hf := (nodeP_iff x).1 hh; (have f1 := hf.zr; omega), hE46, fun h => by cases h⟩
        ·skip
         refine wl_n ?_; refine wl_n ?_; refine wl_n ?_; refine wl_pf ?_; refine wl_m ?_; refine wl_n ?_; refine wl_n ?_; refine wl_n ?_; refine wl_n ?_; refine wl_pf ?_; refine wl_m ?_; refine wl_n ?_; refine wl_n ?_; refine wl_n ?_; refine wl_pf ?_; refine wl_m ?_; refine wl_n ?_; refine wl_n ?_; refine wl_n ?_; refine wl_pf ?_; refine wl_m ?_; refine wl_n ?_; refine wl_n ?_; refine wl_n ?_; refine wl_pf ?_; refine wl_m ?_; refine wl_n ?_; refine wl_n ?_; refine wl_n ?_; refine wl_pf ?_; refine wl_m ?_; refine wl_n ?_; refine wl_n ?_; refine wl_n ?_; refine wl_pf ?_; refine wl_a ?_; refine wl_nil (nrm_then ?_); refine cw_ret (body_ret1 rfl rfl ?_)
         exact ⟨false, rfl, by simp only [Bool.false_eq_true, false_iff]; intro hh; obtain ⟨hh, hh2⟩ := hh; have hf := (nodeP_iff x).1 hh; (have f1 := hf.two; have f2 := hf.rep4; have f3 := hf.grp; have f4 := hf.leaf; omega), hE46, fun h => by cases h⟩
       ·skip
        refine cw_seq ?_; refine cw_region ?_; refine wl_val rfl (ex_eql rfl rfl) ?_; refine wl_a ?_; refine wl_nil (nrm_then ?_); refine cw_if rfl (fun hc45 => ?_) (fun hc45 => ?_)
        ·skip
         refine cw_seq ?_; refine cw_seq ?_; refine cw_region ?_; refine wl_val rfl (ex_fieldAddr rfl Try.fld25_3) ?_; refine wl_val rfl (ex_load1 rfl Try.agg3 (cell_nth hB49 rfl)) ?_; refine wl_val rfl (ex_lss rfl rfl) ?_; refine wl_m ?_; refine wl_split (t := 50) rfl (fun hs50 => ?_) (fun hs50 => ?_)
         ·skip
          refine wl_n ?_; refine wl_n ?_; refine wl_n ?_; refine wl_pt ?_; refine wl_m ?_; refine wl_n ?_; refine wl_n ?_; refine wl_n ?_; refine wl_n ?_; refine wl_u ?_; refine wl_u ?_; refine wl_u ?_; refine wl_u ?_; refine wl_u ?_; refine wl_u ?_; refine wl_u ?_; refine wl_u ?_; refine wl_u ?_; refine wl_u ?_; refine wl_n ?_; refine wl_pt ?_; refine wl_nil (nrm_then ?_); refine cw_true rfl ?_; refine cw_seq ?_; refine cw_region ?_; refine wl_a ?_; refine wl_nil (nrm_then ?_); refine cw_ret (ret_then (ret_block (ret_then (body_ret1 rfl rfl ?_))))
          exact ⟨false, rfl, by simp only [Bool.false_eq_true, false_iff]; intro hh; obtain ⟨hh, hh2⟩ := hh; have hf := (nodeP_iff x).1 hh; (have f1 := hf.rep1; omega), hE46, fun h => by cases h⟩
         ·skip
          refine wl_g ?_; refine wl_val rfl (ex_fieldAddr rfl Try.fld25_3) ?_; refine wl_g ?_; refine wl_val rfl (ex_load1 rfl Try.agg3 (cell_nth hB49 rfl)) ?_; refine wl_g ?_; refine wl_val rfl (ex_gtr rfl rfl) ?_; refine wl_pf ?_; refine wl_m ?_; refine wl_split (t := 55) rfl (fun hs55 => ?_) (fun hs55 => ?_)
          ·skip
           refine wl_n ?_; refine wl_n ?_; refine wl_n ?_; refine wl_n ?_; refine wl_u ?_; refine wl_u ?_; refine wl_u ?_; refine wl_u ?_; refine wl_u ?_; refine wl_u ?_; refine wl_u ?_; refine wl_u ?_; refine wl_u ?_; refine wl_u ?_; refine wl_n ?_; refine wl_pt ?_; refine wl_nil (nrm_then ?_); refine cw_true rfl ?_; refine cw_seq ?_; refine cw_region ?_; refine wl_a ?_; refine wl_nil (nrm_then ?_); refine cw_ret (ret_then (ret_block (ret_then (body_ret1 rfl rfl ?_))))
           exact ⟨false, rfl, by simp only [Bool.false_eq_true, false_iff]; intro hh; obtain ⟨hh, hh2⟩ := hh; have hf := (nodeP_iff x).1 hh; (have f1 := hf.rep1; have f2 := hf.rep2; have f3 := hf.rep3; omega), hE46, fun h => by cases h⟩
          ·skip
           refine wl_g ?_; refine wl_val rfl (ex_fieldAddr rfl Try.fld25_4) ?_; refine wl_g ?_; refine wl_val rfl (ex_load1 rfl Try.agg3 (cell_nth hB49 rfl)) ?_; refine wl_g ?_; refine wl_val rfl (ex_neq rfl rfl) ?_; refine wl_g ?_; refine wl_m ?_; refine wl_split (t := 59) rfl (fun hs59 => ?_) (fun hs59 => ?_)
           ·skip
            refine wl_g ?_; refine wl_val rfl (ex_fieldAddr rfl Try.fld25_4) ?_; refine wl_g ?_; refine wl_val rfl (ex_load1 rfl Try.agg3 (cell_nth hB49 rfl)) ?_; refine wl_g ?_; refine wl_val rfl (ex_fieldAddr rfl Try.fld25_3) ?_; refine wl_g ?_; refine wl_val rfl (ex_load1 rfl Try.agg3 (cell_nth hB49 rfl)) ?_; refine wl_g ?_; refine wl_val rfl (ex_lss rfl rfl) ?_; refine wl_g ?_; refine wl_m ?_; refine wl_split (t := 65) rfl (fun hs65 => ?_) (fun hs65 => ?_)
            ·skip
             refine wl_n ?_; refine wl_n ?_; refine wl_n ?_; refine wl_g ?_; refine wl_pt ?_; refine wl_g ?_; refine wl_pt ?_; refine wl_pf ?_; refine wl_nil (nrm_then ?_); refine cw_true rfl ?_; refine cw_seq ?_; refine cw_region ?_; refine wl_a ?_; refine wl_nil (nrm_then ?_); refine cw_ret (ret_then (ret_block (ret_then (body_ret1 rfl rfl ?_))))
             exact ⟨false, rfl, by simp only [Bool.false_eq_true, false_iff]; intro hh; obtain ⟨hh, hh2⟩ := hh; have hf := (nodeP_iff x).1 hh; (have f1 := hf.rep1; have f2 := hf.rep2; have f3 := hf.rep3; omega), hE46, fun h => by cases h⟩
            ·skip
             refine wl_g ?_; refine wl_val rfl (ex_fieldAddr rfl Try.fld25_4) ?_; refine wl_g ?_; refine wl_val rfl (ex_load1 rfl Try.agg3 (cell_nth hB49 rfl)) ?_; refine wl_g ?_; refine wl_val rfl (ex_gtr rfl rfl) ?_; refine wl_g ?_; refine wl_pf ?_; refine wl_g ?_; refine wl_pt ?_; refine wl_pf ?_; refine wl_nil (nrm_then ?_); refine cw_if rfl (fun hc71 => ?_) (fun hc71 => ?_)
             ·skip
              refine cw_seq ?_; refine cw_region ?_; refine wl_a ?_; refine wl_nil (nrm_then ?_); refine cw_ret (ret_then (ret_block (ret_then (body_ret1 rfl rfl ?_))))
              exact ⟨false, rfl, by simp only [Bool.false_eq_true, false_iff]; intro hh; obtain ⟨hh, hh2⟩ := hh; have hf := (nodeP_iff x).1 hh; (have f1 := hf.rep1; have f2 := hf.rep2; have f3 := hf.rep3; omega), hE46, fun h => by cases h⟩
             ·skip
              refine cw_skip (nrm_then ?_); refine cw_seq ?_; refine cw_region ?_; refine wl_val rfl (ex_fieldAddr rfl Try.fld25_3) ?_; refine wl_store1 rfl rfl (by first | rfl | assumption) Try.size3 hB50 rfl fun w72 hB73 hw74 => ?_; have hE75 := hE46.step hw74 hG18.mem1; have hB76 := hw74.blk hB47 hA15.nmem1; have hO77 := hO48.evo hw74 hA16.own1; have hB78 := hw74.blk hB49 hA17.nmem1
              try simp only [List.setIfInBounds_toArray, List.set_cons_zero, List.set_cons_succ, Nat.reduceAdd, Nat.zero_add, Nat.add_zero] at hB73
              refine wl_val rfl (ex_fieldAddr rfl Try.fld25_4) ?_; refine wl_store1 rfl rfl (by first | rfl | assumption) Try.size3 hB73 rfl fun w79 hB80 hw81 => ?_; have hE82 := hE75.step hw81 hG18.mem1; have hB83 := hw81.blk hB76 hA15.nmem1; have hO84 := hO77.evo hw81 hA16.own1; have hB85 := hw81.blk hB78 hA17.nmem1
              try simp only [List.setIfInBounds_toArray, List.set_cons_zero, List.set_cons_succ, Nat.reduceAdd, Nat.zero_add, Nat.add_zero] at hB80
              refine wl_val rfl (ex_fieldAddr rfl Try.fld25_5) ?_; refine wl_store1 rfl rfl (by first | rfl | assumption) Try.size4 hB80 rfl fun w86 hB87 hw88 => ?_; have hE89 := hE82.step hw88 hG18.mem1; have hB90 := hw88.blk hB83 hA15.nmem1; have hO91 := hO84.evo hw88 hA16.own1; have hB92 := hw88.blk hB85 hA17.nmem1
              try simp only [List.setIfInBounds_toArray, List.set_cons_zero, List.set_cons_succ, Nat.reduceAdd, Nat.zero_add, Nat.add_zero] at hB87
              refine wl_nil (nrm_then ?_); refine cw_region ?_; refine wl_a ?_; refine wl_nil (nrm_block (nrm_then ?_)); refine cw_seq ?_; refine cw_region ?_; refine wl_val rfl (ex_fieldAddr rfl Try.fld25_8) ?_; refine wl_val rfl (ex_load1 rfl Try.agg23 (cell_nth hB92 rfl)) ?_; refine wl_val rfl (ex_len_slice rfl Try.underlying23 rfl) ?_; refine wl_m ?_; refine wl_val rfl (ex_eql rfl rfl) ?_; refine wl_m ?_; refine wl_split (t := 91) rfl (fun hs91 => ?_) (fun hs91 => ?_)
              ·skip
               refine wl_g ?_; refine wl_val rfl (ex_fieldAddr rfl Try.fld25_1) ?_; refine wl_g ?_; refine wl_val rfl (ex_load1 rfl Try.agg21 (cell_nth hB87 rfl)) ?_; refine wl_g ?_; refine wl_val rfl (ex_eql rfl rfl) ?_; refine wl_pt ?_; refine wl_m ?_; refine wl_split (t := 96) rfl (fun hs96 => ?_) (fun hs96 => ?_)
               ·skip
                refine wl_g ?_; refine wl_val rfl (ex_fieldAddr rfl Try.fld25_2) ?_; refine wl_g ?_; refine wl_val rfl (ex_load1 rfl Try.agg22 (cell_nth hB87 rfl)) ?_; refine wl_g ?_; refine wl_val rfl (ex_len_slice rfl Try.underlying22 rfl) ?_; refine wl_g ?_; refine wl_val rfl (ex_eql rfl rfl) ?_; refine wl_pt ?_; refine wl_m ?_; refine wl_split (t := 102) rfl (fun hs102 => ?_) (fun hs102 => ?_)
                ·skip
                 refine wl_g ?_; refine wl_val rfl (ex_fieldAddr rfl Try.fld25_3) ?_; refine wl_g ?_; refine wl_val rfl (ex_load1 rfl Try.agg3 (cell_nth hB87 rfl)) ?_; refine wl_g ?_; refine wl_val rfl (ex_eql rfl rfl) ?_; refine wl_pt ?_; refine wl_m ?_; refine wl_split (t := 107) rfl (fun hs107 => ?_) (fun hs107 => ?_)
                 ·skip
                  refine wl_g ?_; refine wl_val rfl (ex_fieldAddr rfl Try.fld25_4) ?_; refine wl_g ?_; refine wl_val rfl (ex_load1 rfl Try.agg3 (cell_nth hB87 rfl)) ?_; refine wl_g ?_; refine wl_val rfl (ex_eql rfl rfl) ?_; refine wl_pt ?_; refine wl_m ?_; refine wl_split (t := 112) rfl (fun hs112 => ?_) (fun hs112 => ?_)
                  ·skip
                   refine wl_g ?_; refine wl_val rfl (ex_fieldAddr rfl Try.fld25_5) ?_; refine wl_g ?_; refine wl_val rfl (ex_load1 rfl Try.agg4 (cell_nth hB87 rfl)) ?_; refine wl_g ?_; refine wl_val rfl (ex_notb rfl) ?_; refine wl_pt ?_; refine wl_m ?_; refine wl_splitb (t := 117) rfl (fun hs117 => ?_) (fun hs117 => ?_)
                   ·skip
                    refine wl_g ?_; refine wl_val rfl (ex_fieldAddr rfl Try.fld25_6) ?_; refine wl_g ?_; refine wl_val rfl (ex_load1 rfl Try.agg3 (cell_nth hB87 rfl)) ?_; refine wl_g ?_; refine wl_val rfl (ex_eql rfl rfl) ?_; refine wl_pt ?_; refine wl_m ?_; refine wl_split (t := 122) rfl (fun hs122 => ?_) (fun hs122 => ?_)
                    ·skip
                     refine wl_g ?_; refine wl_val rfl (ex_fieldAddr rfl Try.fld25_7) ?_; refine wl_g ?_; refine wl_val rfl (ex_load1 rfl Try.agg9 (cell_nth hB87 rfl)) ?_; refine wl_g ?_; refine wl_val rfl (ex_eqs rfl rfl) ?_; refine wl_pt ?_; refine wl_a ?_; refine wl_nil (nrm_then ?_); refine cw_ret (body_ret1 rfl rfl ?_)
                     have hlz : x.kind = 6 ∨ x.lazy = false := by first | (left; omega) | (right; simpa using hs117)
                     refine ⟨_, rfl, ?_, hE89, fun hb => ?_⟩
                     · simp only [decide_eq_true_eq]
                       constructor
                       · intro hnm
                         exact ⟨(nodeP_iff x).2 (by constructor <;> first | omega | (right; assumption) | (left; omega) | exact hlz | exact .inr hnm | (intro hk; exact hcb.1 (by simpa using hc36)) | (intro hk; exfalso; omega)), by intro hk; exfalso; omega⟩
                       · intro hh; obtain ⟨hh, hh2⟩ := hh; have hf := (nodeP_iff x).1 hh; exact hf.zn.resolve_left (by omega)
                     · rw [if_neg (by omega)]; exact ⟨a, c, ob, ⟨hB90, hO91, hne⟩, .inl rfl⟩
                    ·skip
                     refine wl_n ?_; refine wl_n ?_; refine wl_n ?_; refine wl_pf ?_; refine wl_a ?_; refine wl_nil (nrm_then ?_); refine cw_ret (body_ret1 rfl rfl ?_)
                     exact ⟨false, rfl, by simp only [Bool.false_eq_true, false_iff]; intro hh; obtain ⟨hh, hh2⟩ := hh; have hf := (nodeP_iff x).1 hh; (have f1 := hf.zc; omega), hE89, fun h => by cases h⟩
                   ·skip
                    refine wl_n ?_; refine wl_n ?_; refine wl_n ?_; refine wl_pf ?_; refine wl_m ?_; refine wl_n ?_; refine wl_n ?_; refine wl_n ?_; refine wl_pf ?_; refine wl_a ?_; refine wl_nil (nrm_then ?_); refine cw_ret (body_ret1 rfl rfl ?_)
                    exact ⟨false, rfl, by simp only [Bool.false_eq_true, false_iff]; intro hh; obtain ⟨hh, hh2⟩ := hh; have hf := (nodeP_iff x).1 hh; (first | (rcases hf.zl with h | h; omega; rw [h] at hs117; cases hs117; done) | cases hs117), hE89, fun h => by cases h⟩
                  ·skip
                   refine wl_n ?_; refine wl_n ?_; refine wl_n ?_; refine wl_pf ?_; refine wl_m ?_; refine wl_n ?_; refine wl_n ?_; refine wl_n ?_; refine wl_pf ?_; refine wl_m ?_; refine wl_n ?_; refine wl_n ?_; refine wl_n ?_; refine wl_pf ?_; refine wl_a ?_; refine wl_nil (nrm_then ?_); refine cw_ret (body_ret1 rfl rfl ?_)
                   exact ⟨false, rfl, by simp only [Bool.false_eq_true, false_iff]; intro hh; obtain ⟨hh, hh2⟩ := hh; have hf := (nodeP_iff x).1 hh; (have f1 := hf.zm2; omega), hE89, fun h => by cases h⟩
                 ·skip
                  refine wl_n ?_; refine wl_n ?_; refine wl_n ?_; refine wl_pf ?_; refine wl_m ?_; refine wl_n ?_; refine wl_n ?_; refine wl_n ?_; refine wl_pf ?_; refine wl_m ?_; refine wl_n ?_; refine wl_n ?_; refine wl_n ?_; refine wl_pf ?_; refine wl_m ?_; refine wl_n ?_; refine wl_n ?_; refine wl_n ?_; refine wl_pf ?_; refine wl_a ?_; refine wl_nil (nrm_then ?_); refine cw_ret (body_ret1 rfl rfl ?_)
                  exact ⟨false, rfl, by simp only [Bool.false_eq_true, false_iff]; intro hh; obtain ⟨hh, hh2⟩ := hh; have hf := (nodeP_iff x).1 hh; (have f1 := hf.zm1; omega), hE89, fun h => by cases h⟩
                ·skip
                 refine wl_n ?_; refine wl_n ?_; refine wl_n ?_; refine wl_pf ?_; refine wl_m ?_; refine wl_n ?_; refine wl_n ?_; refine wl_n ?_; refine wl_pf ?_; refine wl_m ?_; refine wl_n ?_; refine wl_n ?_; refine wl_n ?_; refine wl_pf ?_; refine wl_m ?_; refine wl_n ?_; refine wl_n ?_; refine wl_n ?_; refine wl_pf ?_; refine wl_m ?_; refine wl_n ?_; refine wl_n ?_; refine wl_n ?_; refine wl_pf ?_; refine wl_a ?_; refine wl_nil (nrm_then ?_); refine cw_ret (body_ret1 rfl rfl ?_)
                 exact ⟨false, rfl, by simp only [Bool.false_eq_true, false_iff]; intro hh; obtain ⟨hh, hh2⟩ := hh; have hf := (nodeP_iff x).1 hh; (have f1 := hf.zg; omega), hE89, fun h => by cases h⟩
               ·skip
                refine wl_n ?_; refine wl_n ?_; refine wl_n ?_; refine wl_n ?_; refine wl_pf ?_; refine wl_m ?_; refine wl_n ?_; refine wl_n ?_; refine wl_n ?_; refine wl_pf ?_; refine wl_m ?_; refine wl_n ?_; refine wl_n ?_; refine wl_n ?_; refine wl_pf ?_; refine wl_m ?_; refine wl_n ?_; refine wl_n ?_; refine wl_n ?_; refine wl_pf ?_; refine wl_m ?_; refine wl_n ?_; refine wl_n ?_; refine wl_n ?_; refine wl_pf ?_; refine wl_m ?_; refine wl_n ?_; refine wl_n ?_; refine wl_n ?_; refine wl_pf ?_; refine wl_a ?_; refine wl_nil (nrm_then ?_); refine cw_ret (body_ret1 rfl rfl ?_)
                exact ⟨false, rfl, by simp only [Bool.false_eq_true, false_iff]; intro hh; obtain ⟨hh, hh2⟩ := hh; have hf := (nodeP_iff x).1 hh; (have f1 := hf.zr; omega), hE89, fun h => by cases h⟩
              ·skip
               refine wl_n ?_; refine wl_n ?_; refine wl_n ?_; refine wl_pf ?_; refine wl_m ?_; refine wl_n ?_; refine wl_n ?_; refine wl_n ?_; refine wl_n ?_; refine wl_pf ?_; refine wl_m ?_; refine wl_n ?_; refine wl_n ?_; refine wl_n ?_; refine wl_pf ?_; refine wl_m ?_; refine wl_n ?_; refine wl_n ?_; refine wl_n ?_; refine wl_pf ?_; refine wl_m ?_; refine wl_n ?_; refine wl_n ?_; refine wl_n ?_; refine wl_pf ?_; refine wl_m ?_; refine wl_n ?_; refine wl_n ?_; refine wl_n ?_; refine wl_pf ?_; refine wl_m ?_; refine wl_n ?_; refine wl_n ?_; refine wl_n ?_; refine wl_pf ?_; refine wl_a ?_; refine wl_nil (nrm_then ?_); refine cw_ret (body_ret1 rfl rfl ?_)
               exact ⟨false, rfl, by simp only [Bool.false_eq_true, false_iff]; intro hh; obtain ⟨hh, hh2⟩ := hh; have hf := (nodeP_iff x).1 hh; (have f1 := hf.two; have f2 := hf.rep4; have f3 := hf.grp; have f4 := hf.leaf; omega), hE89, fun h => by cases h⟩
           ·skip
            refine wl_n ?_; refine wl_n ?_; refine wl_n ?_; refine wl_n ?_; refine wl_n ?_; refine wl_n ?_; refine wl_u ?_; refine wl_u ?_; refine wl_u ?_; refine wl_n ?_; refine wl_g ?_; refine wl_pf ?_; refine wl_pf ?_; refine wl_nil (nrm_then ?_); refine cw_false rfl ?_; refine cw_skip (nrm_then ?_); refine cw_seq ?_; refine cw_region ?_; refine wl_val rfl (ex_fieldAddr rfl Try.fld25_3) ?_; refine wl_store1 rfl rfl (by first | rfl | assumption) Try.size3 hB50 rfl fun w93 hB94 hw95 => ?_; have hE96 := hE46.step hw95 hG18.mem1; have hB97 := hw95.blk hB47 hA15.nmem1; have hO98 := hO48.evo hw95 hA16.own1; have hB99 := hw95.blk hB49 hA17.nmem1
            try simp only [List.setIfInBounds_toArray, List.set_cons_zero, List.set_cons_succ, Nat.reduceAdd, Nat.zero_add, Nat.add_zero] at hB94
            refine wl_val rfl (ex_fieldAddr rfl Try.fld25_4) ?_; refine wl_store1 rfl rfl (by first | rfl | assumption) Try.size3 hB94 rfl fun w100 hB101 hw102 => ?_; have hE103 := hE96.step hw102 hG18.mem1; have hB104 := hw102.blk hB97 hA15.nmem1; have hO105 := hO98.evo hw102 hA16.own1; have hB106 := hw102.blk hB99 hA17.nmem1
            try simp only [List.setIfInBounds_toArray, List.set_cons_zero, List.set_cons_succ, Nat.reduceAdd, Nat.zero_add, Nat.add_zero] at hB101
            refine wl_val rfl (ex_fieldAddr rfl Try.fld25_5) ?_; refine wl_store1 rfl rfl (by first | rfl | assumption) Try.size4 hB101 rfl fun w107 hB108 hw109 => ?_; have hE110 := hE103.step hw109 hG18.mem1; have hB111 := hw109.blk hB104 hA15.nmem1; have hO112 := hO105.evo hw109 hA16.own1; have hB113 := hw109.blk hB106 hA17.nmem1
            try simp only [List.setIfInBounds_toArray, List.set_cons_zero, List.set_cons_succ, Nat.reduceAdd, Nat.zero_add, Nat.add_zero] at hB108
            refine wl_nil (nrm_then ?_); refine cw_region ?_; refine wl_a ?_; refine wl_nil (nrm_block (nrm_then ?_)); refine cw_seq ?_; refine cw_region ?_; refine wl_val rfl (ex_fieldAddr rfl Try.fld25_8) ?_; refine wl_val rfl (ex_load1 rfl Try.agg23 (cell_nth hB113 rfl)) ?_; refine wl_val rfl (ex_len_slice rfl Try.underlying23 rfl) ?_; refine wl_m ?_; refine wl_val rfl (ex_eql rfl rfl) ?_; refine wl_m ?_; refine wl_split (t := 91) rfl (fun hs91 => ?_) (fun hs91 => ?_)
            ·skip
             refine wl_g ?_; refine wl_val rfl (ex_fieldAddr rfl Try.fld25_1) ?_; refine wl_g ?_; refine wl_val rfl (ex_load1 rfl Try.agg21 (cell_nth hB108 rfl)) ?_; refine wl_g ?_; refine wl_val rfl (ex_eql rfl rfl) ?_; refine wl_pt ?_; refine wl_m ?_; refine wl_split (t := 96) rfl (fun hs96 => ?_) (fun hs96 => ?_)
             ·skip
              refine wl_g ?_; refine wl_val rfl (ex_fieldAddr rfl Try.fld25_2) ?_; refine wl_g ?_; refine wl_val rfl (ex_load1 rfl Try.agg22 (cell_nth hB108 rfl)) ?_; refine wl_g ?_; refine wl_val rfl (ex_len_slice rfl Try.underlying22 rfl) ?_; refine wl_g ?_; refine wl_val rfl (ex_eql rfl rfl) ?_; refine wl_pt ?_; refine wl_m ?_; refine wl_split (t := 102) rfl (fun hs102 => ?_) (fun hs102 => ?_)
              ·skip
               refine wl_g ?_; refine wl_val rfl (ex_fieldAddr rfl Try.fld25_3) ?_; refine wl_g ?_; refine wl_val rfl (ex_load1 rfl Try.agg3 (cell_nth hB108 rfl)) ?_; refine wl_g ?_; refine wl_val rfl (ex_eql rfl rfl) ?_; refine wl_pt ?_; refine wl_m ?_; refine wl_split (t := 107) rfl (fun hs107 => ?_) (fun hs107 => ?_)
               ·skip
                refine wl_g ?_; refine wl_val rfl (ex_fieldAddr rfl Try.fld25_4) ?_; refine wl_g ?_; refine wl_val rfl (ex_load1 rfl Try.agg3 (cell_nth hB108 rfl)) ?_; refine wl_g ?_; refine wl_val rfl (ex_eql rfl rfl) ?_; refine wl_pt ?_; refine wl_m ?_; refine wl_split (t := 112) rfl (fun hs112 => ?_) (fun hs112 => ?_)
                ·skip
                 refine wl_g ?_; refine wl_val rfl (ex_fieldAddr rfl Try.fld25_5) ?_; refine wl_g ?_; refine wl_val rfl (ex_load1 rfl Try.agg4 (cell_nth hB108 rfl)) ?_; refine wl_g ?_; refine wl_val rfl (ex_notb rfl) ?_; refine wl_pt ?_; refine wl_m ?_; refine wl_splitb (t := 117) rfl (fun hs117 => ?_) (fun hs117 => ?_)
                 ·skip
                  refine wl_g ?_; refine wl_val rfl (ex_fieldAddr rfl Try.fld25_6) ?_; refine wl_g ?_; refine wl_val rfl (ex_load1 rfl Try.agg3 (cell_nth hB108 rfl)) ?_; refine wl_g ?_; refine wl_val rfl (ex_eql rfl rfl) ?_; refine wl_pt ?_; refine wl_m ?_; refine wl_split (t := 122) rfl (fun hs122 => ?_) (fun hs122 => ?_)
                  ·skip
                   refine wl_g ?_; refine wl_val rfl (ex_fieldAddr rfl Try.fld25_7) ?_; refine wl_g ?_; refine wl_val rfl (ex_load1 rfl Try.agg9 (cell_nth hB108 rfl)) ?_; refine wl_g ?_; refine wl_val rfl (ex_eqs rfl rfl) ?_; refine wl_pt ?_; refine wl_a ?_; refine wl_nil (nrm_then ?_); refine cw_ret (body_ret1 rfl rfl ?_)
                   have hlz : x.kind = 6 ∨ x.lazy = false := by first | (left; omega) | (right; simpa using hs117)
                   refine ⟨_, rfl, ?_, hE110, fun hb => ?_⟩
                   · simp only [decide_eq_true_eq]
                     constructor
                     · intro hnm
                       exact ⟨(nodeP_iff x).2 (by constructor <;> first | omega | (right; assumption) | (left; omega) | exact hlz | exact .inr hnm | (intro hk; exact hcb.1 (by simpa using hc36)) | (intro hk; exfalso; omega)), by intro hk; exfalso; omega⟩
                     · intro hh; obtain ⟨hh, hh2⟩ := hh; have hf := (nodeP_iff x).1 hh; exact hf.zn.resolve_left (by omega)
                   · rw [if_neg (by omega)]; exact ⟨a, c, ob, ⟨hB111, hO112, hne⟩, .inl rfl⟩
                  ·skip
                   refine wl_n ?_; refine wl_n ?_; refine wl_n ?_; refine wl_pf ?_; refine wl_a ?_; refine wl_nil (nrm_then ?_); refine cw_ret (body_ret1 rfl rfl ?_)
                   exact ⟨false, rfl, by simp only [Bool.false_eq_true, false_iff]; intro hh; obtain ⟨hh, hh2⟩ := hh; have hf := (nodeP_iff x).1 hh; (have f1 := hf.zc; omega), hE110, fun h => by cases h⟩
                 ·skip
                  refine wl_n ?_; refine wl_n ?_; refine wl_n ?_; refine wl_pf ?_; refine wl_m ?_; refine wl_n ?_; refine wl_n ?_; refine wl_n ?_; refine wl_pf ?_; refine wl_a ?_; refine wl_nil (nrm_then ?_); refine cw_ret (body_ret1 rfl rfl ?_)
                  exact ⟨false, rfl, by simp only [Bool.false_eq_true, false_iff]; intro hh; obtain ⟨hh, hh2⟩ := hh; have hf := (nodeP_iff x).1 hh; (first | (rcases hf.zl with h | h; omega; rw [h] at hs117; cases hs117; done) | cases hs117), hE110, fun h => by cases h⟩
                ·skip
                 refine wl_n ?_; refine wl_n ?_; refine wl_n ?_; refine wl_pf ?_; refine wl_m ?_; refine wl_n ?_; refine wl_n ?_; refine wl_n ?_; refine wl_pf ?_; refine wl_m ?_; refine wl_n ?_; refine wl_n ?_; refine wl_n ?_; refine wl_pf ?_; refine wl_a ?_; refine wl_nil (nrm_then ?_); refine cw_ret (body_ret1 rfl rfl ?_)
                 exact ⟨false, rfl, by simp only [Bool.false_eq_true, false_iff]; intro hh; obtain ⟨hh, hh2⟩ := hh; have hf := (nodeP_iff x).1 hh; (have f1 := hf.zm2; omega), hE110, fun h => by cases h⟩
               ·skip
                refine wl_n ?_; refine wl_n ?_; refine wl_n ?_; refine wl_pf ?_; refine wl_m ?_; refine wl_n ?_; refine wl_n ?_; refine wl_n ?_; refine wl_pf ?_; refine wl_m ?_; refine wl_n ?_; refine wl_n ?_; refine wl_n ?_; refine wl_pf ?_; refine wl_m ?_; refine wl_n ?_; refine wl_n ?_; refine wl_n ?_; refine wl_pf ?_; refine wl_a ?_; refine wl_nil (nrm_then ?_); refine cw_ret (body_ret1 rfl rfl ?_)
                exact ⟨false, rfl, by simp only [Bool.false_eq_true, false_iff]; intro hh; obtain ⟨hh, hh2⟩ := hh; have hf := (nodeP_iff x).1 hh; (have f1 := hf.zm1; omega), hE110, fun h => by cases h⟩
              ·skip
               refine wl_n ?_; refine wl_n ?_; refine wl_n ?_; refine wl_pf ?_; refine wl_m ?_; refine wl_n ?_; refine wl_n ?_; refine wl_n ?_; refine wl_pf ?_; refine wl_m ?_; refine wl_n ?_; refine wl_n ?_; refine wl_n ?_; refine wl_pf ?_; refine wl_m ?_; refine wl_n ?_; refine wl_n ?_; refine wl_n ?_; refine wl_pf ?_; refine wl_m ?_; refine wl_n ?_; refine wl_n ?_; refine wl_n ?_; refine wl_pf ?_; refine wl_a ?_; refine wl_nil (nrm_then ?_); refine cw_ret (body_ret1 rfl rfl ?_)
               exact ⟨false, rfl, by simp only [Bool.false_eq_true, false_iff]; intro hh; obtain ⟨hh, hh2⟩ := hh; have hf := (nodeP_iff x).1 hh; (have f1 := hf.zg; omega), hE110, fun h => by cases h⟩
             ·skip
              refine wl_n ?_; refine wl_n ?_; refine wl_n ?_; refine wl_n ?_; refine wl_pf ?_; refine wl_m ?_; refine wl_n ?_; refine wl_n ?_; refine wl_n ?_; refine wl_pf ?_; refine wl_m ?_; refine wl_n ?_; refine wl_n ?_; refine wl_n ?_; refine wl_pf ?_; refine wl_m ?_; refine wl_n ?_; refine wl_n ?_; refine wl_n ?_; refine wl_pf ?_; refine wl_m ?_; refine wl_n ?_; refine wl_n ?_; refine wl_n ?_; refine wl_pf ?_; refine wl_m ?_; refine wl_n ?_; refine wl_n ?_; refine wl_n ?_; refine wl_pf ?_; refine wl_a ?_; refine wl_nil (nrm_then ?_); refine cw_ret (body_ret1 rfl rfl ?_)
              exact ⟨false, rfl, by simp only [Bool.false_eq_true, false_iff]; intro hh; obtain ⟨hh, hh2⟩ := hh; have hf := (nodeP_iff x).1 hh; (have f1 := hf.zr; omega), hE110, fun h => by cases h⟩
            ·skip
             refine wl_n ?_; refine wl_n ?_; refine wl_n ?_; refine wl_pf ?_; refine wl_m ?_; refine wl_n ?_; refine wl_n ?_; refine wl_n ?_; refine wl_n ?_; refine wl_pf ?_; refine wl_m ?_; refine wl_n ?_; refine wl_n ?_; refine wl_n ?_; refine wl_pf ?_; refine wl_m ?_; refine wl_n ?_; refine wl_n ?_; refine wl_n ?_; refine wl_pf ?_; refine wl_m ?_; refine wl_n ?_; refine wl_n ?_; refine wl_n ?_; refine wl_pf ?_; refine wl_m ?_; refine wl_n ?_; refine wl_n ?_; refine wl_n ?_; refine wl_pf ?_; refine wl_m ?_; refine wl_n ?_; refine wl_n ?_; refine wl_n ?_; refine wl_pf ?_; refine wl_a ?_; refine wl_nil (nrm_then ?_); refine cw_ret (body_ret1 rfl rfl ?_)
             exact ⟨false, rfl, by simp only [Bool.false_eq_true, false_iff]; intro hh; obtain ⟨hh, hh2⟩ := hh; have hf := (nodeP_iff x).1 hh; (have f1 := hf.two; have f2 := hf.rep4; have f3 := hf.grp; have f4 := hf.leaf; omega), hE110, fun h => by cases h⟩
        ·skip
         refine cw_seq ?_; refine cw_region ?_; refine wl_val rfl (ex_eql rfl rfl) ?_; refine wl_a ?_; refine wl_nil (nrm_then ?_); refine cw_if rfl (fun hc75 => ?_) (fun hc75 => ?_)
         ·skip
          refine cw_seq ?_; refine cw_seq ?_; refine cw_region ?_; refine wl_m ?_; refine wl_val rfl (ex_fieldAddr rfl Try.fld25_6) ?_; refine wl_val rfl (ex_load1 rfl Try.agg3 (cell_nth hB49 rfl)) ?_; refine wl_val rfl (ex_fieldAddr rfl Try.fld25_7) ?_; refine wl_val rfl (ex_load1 rfl Try.agg9 (cell_nth hB49 rfl)) ?_; have hszc := (hE46).size; have hlt3 := Lt.blk hB49; have hlt5 := Lt.blk hB50; refine wl_call1 (vs := [_, _, _]) Try.goes21 rfl (group_ok ⟨hB47, hO48, hne⟩ hl bl2) rfl ?_; rintro _ w114 ⟨gb, rfl, hgb, hw115, hgs⟩; have hE116 := hE46.step hw115 (fun y hy => .inl hy); have hB117 := hw115.blk hB49 (nmem2 hA5.symm hA6.symm); have hB118 := hw115.blk hB50 (nmem2 hA15.symm hA16.symm); refine wl_val rfl (ex_notb rfl) ?_; refine wl_nil (nrm_then ?_); refine cw_ifb rfl (fun hc83 => ?_) (fun hc83 => ?_)
          ·skip
           refine cw_seq ?_; refine cw_region ?_; refine wl_a ?_; refine wl_nil (nrm_then ?_); refine cw_ret (ret_then (ret_block (ret_then (body_ret1 rfl rfl ?_))))
           exact ⟨false, rfl, by simp only [Bool.false_eq_true, false_iff]; intro hh; obtain ⟨hh, hh2⟩ := hh; have hf := (nodeP_iff x).1 hh; (rw [hgb.2 (hh2 (by omega))] at hc83; cases hc83), hE116, fun h => by cases h⟩
          ·skip
           obtain ⟨a2, c2, ob2, hJ2, hob2⟩ := hgs (by simpa using hc83); have hgb2 := hgb.1 (by simpa using hc83); have hA3 := ap_ob hA6.symm hlt3 hob2; have hA5 := ap_ob hA16.symm hlt5 hob2; refine cw_skip (nrm_then ?_); refine cw_seq ?_; refine cw_region ?_; refine wl_val rfl (ex_fieldAddr rfl Try.fld25_6) ?_; refine wl_store1 rfl rfl (by first | rfl | assumption) Try.size3 hB118 rfl fun w119 hB120 hw121 => ?_; have hE122 := hE116.step hw121 hG18.mem1; have hB123 := hw121.blk hB117 hA17.nmem1; have hB124 := hw121.blk hJ2.blk hA15.nmem1; have hO125 := hJ2.own.evo hw121 hA5.symm.own1
           try simp only [List.setIfInBounds_toArray, List.set_cons_zero, List.set_cons_succ, Nat.reduceAdd, Nat.zero_add, Nat.add_zero] at hB120
           refine wl_val rfl (ex_fieldAddr rfl Try.fld25_7) ?_; refine wl_store1 rfl rfl (by first | rfl | assumption) Try.size9 hB120 rfl fun w126 hB127 hw128 => ?_; have hE129 := hE122.step hw128 hG18.mem1; have hB130 := hw128.blk hB123 hA17.nmem1; have hB131 := hw128.blk hB124 hA15.nmem1; have hO132 := hO125.evo hw128 hA5.symm.own1
           try simp only [List.setIfInBounds_toArray, List.set_cons_zero, List.set_cons_succ, Nat.reduceAdd, Nat.zero_add, Nat.add_zero] at hB127
           refine wl_nil (nrm_then ?_); refine cw_region ?_; refine wl_a ?_; refine wl_nil (nrm_block (nrm_then ?_)); refine cw_seq ?_; refine cw_region ?_; refine wl_val rfl (ex_fieldAddr rfl Try.fld25_8) ?_; refine wl_val rfl (ex_load1 rfl Try.agg23 (cell_nth hB130 rfl)) ?_; refine wl_val rfl (ex_len_slice rfl Try.underlying23 rfl) ?_; refine wl_m ?_; refine wl_val rfl (ex_eql rfl rfl) ?_; refine wl_m ?_; refine wl_split (t := 91) rfl (fun hs91 => ?_) (fun hs91 => ?_)
           ·skip
            refine wl_g ?_; refine wl_val rfl (ex_fieldAddr rfl Try.fld25_1) ?_; refine wl_g ?_; refine wl_val rfl (ex_load1 rfl Try.agg21 (cell_nth hB127 rfl)) ?_; refine wl_g ?_; refine wl_val rfl (ex_eql rfl rfl) ?_; refine wl_pt ?_; refine wl_m ?_; refine wl_split (t := 96) rfl (fun hs96 => ?_) (fun hs96 => ?_)
            ·skip
             refine wl_g ?_; refine wl_val rfl (ex_fieldAddr rfl Try.fld25_2) ?_; refine wl_g ?_; refine wl_val rfl (ex_load1 rfl Try.agg22 (cell_nth hB127 rfl)) ?_; refine wl_g ?_; refine wl_val rfl (ex_len_slice rfl Try.underlying22 rfl) ?_; refine wl_g ?_; refine wl_val rfl (ex_eql rfl rfl) ?_; refine wl_pt ?_; refine wl_m ?_; refine wl_split (t := 102) rfl (fun hs102 => ?_) (fun hs102 => ?_)
             ·skip
              refine wl_g ?_; refine wl_val rfl (ex_fieldAddr rfl Try.fld25_3) ?_; refine wl_g ?_; refine wl_val rfl (ex_load1 rfl Try.agg3 (cell_nth hB127 rfl)) ?_; refine wl_g ?_; refine wl_val rfl (ex_eql rfl rfl) ?_; refine wl_pt ?_; refine wl_m ?_; refine wl_split (t := 107) rfl (fun hs107 => ?_) (fun hs107 => ?_)
              ·skip
               refine wl_g ?_; refine wl_val rfl (ex_fieldAddr rfl Try.fld25_4) ?_; refine wl_g ?_; refine wl_val rfl (ex_load1 rfl Try.agg3 (cell_nth hB127 rfl)) ?_; refine wl_g ?_; refine wl_val rfl (ex_eql rfl rfl) ?_; refine wl_pt ?_; refine wl_m ?_; refine wl_split (t := 112) rfl (fun hs112 => ?_) (fun hs112 => ?_)
               ·skip
                refine wl_g ?_; refine wl_val rfl (ex_fieldAddr rfl Try.fld25_5) ?_; refine wl_g ?_; refine wl_val rfl (ex_load1 rfl Try.agg4 (cell_nth hB127 rfl)) ?_; refine wl_g ?_; refine wl_val rfl (ex_notb rfl) ?_; refine wl_pt ?_; refine wl_m ?_; refine wl_splitb (t := 117) rfl (fun hs117 => ?_) (fun hs117 => ?_)
                ·skip
                 refine wl_g ?_; refine wl_val rfl (ex_fieldAddr rfl Try.fld25_6) ?_; refine wl_g ?_; refine wl_val rfl (ex_load1 rfl Try.agg3 (cell_nth hB127 rfl)) ?_; refine wl_g ?_; refine wl_val rfl (ex_eql rfl rfl) ?_; refine wl_pt ?_; refine wl_m ?_; refine wl_split (t := 122) rfl (fun hs122 => ?_) (fun hs122 => ?_)
                 ·skip
                  refine wl_g ?_; refine wl_val rfl (ex_fieldAddr rfl Try.fld25_7) ?_; refine wl_g ?_; refine wl_val rfl (ex_load1 rfl Try.agg9 (cell_nth hB127 rfl)) ?_; refine wl_g ?_; refine wl_val rfl (ex_eqs rfl rfl) ?_; refine wl_pt ?_; refine wl_a ?_; refine wl_nil (nrm_then ?_); refine cw_ret (body_ret1 rfl rfl ?_); have hob3 : ob2 = ob ∨ ∃ g, ob2 = some g ∧ w.heap.size ≤ g := hob2.imp id (fun ⟨g, h1, h2⟩ => ⟨g, h1, Nat.le_trans hszc h2⟩)
                  have hlz : x.kind = 6 ∨ x.lazy = false := by first | (left; omega) | (right; simpa using hs117)
                  refine ⟨_, rfl, ?_, hE129, fun hb => ?_⟩
                  · simp only [decide_eq_true_eq]
                    constructor
                    · intro hnm
                      exact ⟨(nodeP_iff x).2 (by constructor <;> first | omega | (right; assumption) | (left; omega) | exact hlz | (intro hk; exact hcb.1 (by simpa using hc36)) | (intro hk; exfalso; omega)), by intro _; exact hgb2⟩
                    · intro hh; obtain ⟨hh, hh2⟩ := hh; have hf := (nodeP_iff x).1 hh; trivial
                  · rw [if_pos (by omega)]; exact ⟨a2, c2, ob2, ⟨hB131, hO132, hJ2.ne⟩, hob3⟩
                 ·skip
                  refine wl_n ?_; refine wl_n ?_; refine wl_n ?_; refine wl_pf ?_; refine wl_a ?_; refine wl_nil (nrm_then ?_); refine cw_ret (body_ret1 rfl rfl ?_)
                  exact ⟨false, rfl, by simp only [Bool.false_eq_true, false_iff]; intro hh; obtain ⟨hh, hh2⟩ := hh; have hf := (nodeP_iff x).1 hh; (have f1 := hf.zc; omega), hE129, fun h => by cases h⟩
                ·skip
                 refine wl_n ?_; refine wl_n ?_; refine wl_n ?_; refine wl_pf ?_; refine wl_m ?_; refine wl_n ?_; refine wl_n ?_; refine wl_n ?_; refine wl_pf ?_; refine wl_a ?_; refine wl_nil (nrm_then ?_); refine cw_ret (body_ret1 rfl rfl ?_)
                 exact ⟨false, rfl, by simp only [Bool.false_eq_true, false_iff]; intro hh; obtain ⟨hh, hh2⟩ := hh; have hf := (nodeP_iff x).1 hh; (first | (rcases hf.zl with h | h; omega; rw [h] at hs117; cases hs117; done) | cases hs117), hE129, fun h => by cases h⟩
               ·skip
                refine wl_n ?_; refine wl_n ?_; refine wl_n ?_; refine wl_pf ?_; refine wl_m ?_; refine wl_n ?_; refine wl_n ?_; refine wl_n ?_; refine wl_pf ?_; refine wl_m ?_; refine wl_n ?_; refine wl_n ?_; refine wl_n ?_; refine wl_pf ?_; refine wl_a ?_; refine wl_nil (nrm_then ?_); refine cw_ret (body_ret1 rfl rfl ?_)
                exact ⟨false, rfl, by simp only [Bool.false_eq_true, false_iff]; intro hh; obtain ⟨hh, hh2⟩ := hh; have hf := (nodeP_iff x).1 hh; (have f1 := hf.zm2; omega), hE129, fun h => by cases h⟩
              ·skip
               refine wl_n ?_; refine wl_n ?_; refine wl_n ?_; refine wl_pf ?_; refine wl_m ?_; refine wl_n ?_; refine wl_n ?_; refine wl_n ?_; refine wl_pf ?_; refine wl_m ?_; refine wl_n ?_; refine wl_n ?_; refine wl_n ?_; refine wl_pf ?_; refine wl_m ?_; refine wl_n ?_; refine wl_n ?_; refine wl_n ?_; refine wl_pf ?_; refine wl_a ?_; refine wl_nil (nrm_then ?_); refine cw_ret (body_ret1 rfl rfl ?_)
               exact ⟨false, rfl, by simp only [Bool.false_eq_true, false_iff]; intro hh; obtain ⟨hh, hh2⟩ := hh; have hf := (nodeP_iff x).1 hh; (have f1 := hf.zm1; omega), hE129, fun h => by cases h⟩
             ·skip
              refine wl_n ?_; refine wl_n ?_; refine wl_n ?_; refine wl_pf ?_; refine wl_m ?_; refine wl_n ?_; refine wl_n ?_; refine wl_n ?_; refine wl_pf ?_; refine wl_m ?_; refine wl_n ?_; refine wl_n ?_; refine wl_n ?_; refine wl_pf ?_; refine wl_m ?_; refine wl_n ?_; refine wl_n ?_; refine wl_n ?_; refine wl_pf ?_; refine wl_m ?_; refine wl_n ?_; refine wl_n ?_; refine wl_n ?_; refine wl_pf ?_; refine wl_a ?_; refine wl_nil (nrm_then ?_); refine cw_ret (body_ret1 rfl rfl ?_)
              exact ⟨false, rfl, by simp only [Bool.false_eq_true, false_iff]; intro hh; obtain ⟨hh, hh2⟩ := hh; have hf := (nodeP_iff x).1 hh; (have f1 := hf.zg; omega), hE129, fun h => by cases h⟩
            ·skip
             refine wl_n ?_; refine wl_n ?_; refine wl_n ?_; refine wl_n ?_; refine wl_pf ?_; refine wl_m ?_; refine wl_n ?_; refine wl_n ?_; refine wl_n ?_; refine wl_pf ?_; refine wl_m ?_; refine wl_n ?_; refine wl_n ?_; refine wl_n ?_; refine wl_pf ?_; refine wl_m ?_; refine wl_n ?_; refine wl_n ?_; refine wl_n ?_; refine wl_pf ?_; refine wl_m ?_; refine wl_n ?_; refine wl_n ?_; refine wl_n ?_; refine wl_pf ?_; refine wl_m ?_; refine wl_n ?_; refine wl_n ?_; refine wl_n ?_; refine wl_pf ?_; refine wl_a ?_; refine wl_nil (nrm_then ?_); refine cw_ret (body_ret1 rfl rfl ?_)
             exact ⟨false, rfl, by simp only [Bool.false_eq_true, false_iff]; intro hh; obtain ⟨hh, hh2⟩ := hh; have hf := (nodeP_iff x).1 hh; (have f1 := hf.zr; omega), hE129, fun h => by cases h⟩
           ·skip
            refine wl_n ?_; refine wl_n ?_; refine wl_n ?_; refine wl_pf ?_; refine wl_m ?_; refine wl_n ?_; refine wl_n ?_; refine wl_n ?_; refine wl_n ?_; refine wl_pf ?_; refine wl_m ?_; refine wl_n ?_; refine wl_n ?_; refine wl_n ?_; refine wl_pf ?_; refine wl_m ?_; refine wl_n ?_; refine wl_n ?_; refine wl_n ?_; refine wl_pf ?_; refine wl_m ?_; refine wl_n ?_; refine wl_n ?_; refine wl_n ?_; refine wl_pf ?_; refine wl_m ?_; refine wl_n ?_; refine wl_n ?_; refine wl_n ?_; refine wl_pf ?_; refine wl_m ?_; refine wl_n ?_; refine wl_n ?_; refine wl_n ?_; refine wl_pf ?_; refine wl_a ?_; refine wl_nil (nrm_then ?_); refine cw_ret (body_ret1 rfl rfl ?_)
            exact ⟨false, rfl, by simp only [Bool.false_eq_true, false_iff]; intro hh; obtain ⟨hh, hh2⟩ := hh; have hf := (nodeP_iff x).1 hh; (have f1 := hf.two; have f2 := hf.rep4; have f3 := hf.grp; have f4 := hf.leaf; omega), hE129, fun h => by cases h⟩
         ·skip
          refine cw_seq ?_; refine cw_region ?_; refine wl_a ?_; refine wl_nil (nrm_then ?_); refine cw_ret (ret_block (ret_then (body_ret1 rfl rfl ?_)))
          exact ⟨false, rfl, by simp only [Bool.false_eq_true, false_iff]; intro hh; obtain ⟨hh, hh2⟩ := hh; have hf := (nodeP_iff x).1 hh; (have f1 := hf.kind1; have f2 := hf.kind2; omega), hE46, fun h => by cases h⟩
      ·skip
       refine cw_region ?_; refine wl_val rfl (ex_eql rfl rfl) ?_; refine wl_a ?_; refine wl_nil (nrm_then ?_); refine cw_if rfl (fun hc38 => ?_) (fun hc38 => ?_)
       ·skip
        refine cw_region ?_; refine wl_val rfl (ex_fieldAddr rfl Try.fld25_8) ?_; refine wl_val rfl (ex_load1 rfl Try.agg23 (cell_nth hB49 rfl)) ?_; refine wl_val rfl (ex_len_slice rfl Try.underlying23 rfl) ?_; refine wl_val rfl (ex_max rfl rfl) ?_; refine wl_a ?_; refine wl_nil (nrm_block (nrm_then ?_)); refine cw_seq ?_; refine cw_region ?_; refine wl_val rfl (ex_fieldAddr rfl Try.fld25_8) ?_; refine wl_val rfl (ex_load1 rfl Try.agg23 (cell_nth hB49 rfl)) ?_; refine wl_val rfl (ex_len_slice rfl Try.underlying23 rfl) ?_; refine wl_m ?_; refine wl_val rfl (ex_eql rfl rfl) ?_; refine wl_m ?_; refine wl_split (t := 91) rfl (fun hs91 => ?_) (fun hs91 => ?_)
        ·skip
         refine wl_g ?_; refine wl_val rfl (ex_fieldAddr rfl Try.fld25_1) ?_; refine wl_g ?_; refine wl_val rfl (ex_load1 rfl Try.agg21 (cell_nth hB50 rfl)) ?_; refine wl_g ?_; refine wl_val rfl (ex_eql rfl rfl) ?_; refine wl_pt ?_; refine wl_m ?_; refine wl_split (t := 96) rfl (fun hs96 => ?_) (fun hs96 => ?_)
         ·skip
          refine wl_g ?_; refine wl_val rfl (ex_fieldAddr rfl Try.fld25_2) ?_; refine wl_g ?_; refine wl_val rfl (ex_load1 rfl Try.agg22 (cell_nth hB50 rfl)) ?_; refine wl_g ?_; refine wl_val rfl (ex_len_slice rfl Try.underlying22 rfl) ?_; refine wl_g ?_; refine wl_val rfl (ex_eql rfl rfl) ?_; refine wl_pt ?_; refine wl_m ?_; refine wl_split (t := 102) rfl (fun hs102 => ?_) (fun hs102 => ?_)
          ·skip
           refine wl_g ?_; refine wl_val rfl (ex_fieldAddr rfl Try.fld25_3) ?_; refine wl_g ?_; refine wl_val rfl (ex_load1 rfl Try.agg3 (cell_nth hB50 rfl)) ?_; refine wl_g ?_; refine wl_val rfl (ex_eql rfl rfl) ?_; refine wl_pt ?_; refine wl_m ?_; refine wl_split (t := 107) rfl (fun hs107 => ?_) (fun hs107 => ?_)
           ·skip
            refine wl_g ?_; refine wl_val rfl (ex_fieldAddr rfl Try.fld25_4) ?_; refine wl_g ?_; refine wl_val rfl (ex_load1 rfl Try.agg3 (cell_nth hB50 rfl)) ?_; refine wl_g ?_; refine wl_val rfl (ex_eql rfl rfl) ?_; refine wl_pt ?_; refine wl_m ?_; refine wl_split (t := 112) rfl (fun hs112 => ?_) (fun hs112 => ?_)
            ·skip
             refine wl_g ?_; refine wl_val rfl (ex_fieldAddr rfl Try.fld25_5) ?_; refine wl_g ?_; refine wl_val rfl (ex_load1 rfl Try.agg4 (cell_nth hB50 rfl)) ?_; refine wl_g ?_; refine wl_val rfl (ex_notb rfl) ?_; refine wl_pt ?_; refine wl_m ?_; refine wl_splitb (t := 117) rfl (fun hs117 => ?_) (fun hs117 => ?_)
             ·skip
              refine wl_g ?_; refine wl_val rfl (ex_fieldAddr rfl Try.fld25_6) ?_; refine wl_g ?_; refine wl_val rfl (ex_load1 rfl Try.agg3 (cell_nth hB50 rfl)) ?_; refine wl_g ?_; refine wl_val rfl (ex_eql rfl rfl) ?_; refine wl_pt ?_; refine wl_m ?_; refine wl_split (t := 122) rfl (fun hs122 => ?_) (fun hs122 => ?_)
              ·skip
               refine wl_g ?_; refine wl_val rfl (ex_fieldAddr rfl Try.fld25_7) ?_; refine wl_g ?_; refine wl_val rfl (ex_load1 rfl Try.agg9 (cell_nth hB50 rfl)) ?_; refine wl_g ?_; refine wl_val rfl (ex_eqs rfl rfl) ?_; refine wl_pt ?_; refine wl_a ?_; refine wl_nil (nrm_then ?_); refine cw_ret (body_ret1 rfl rfl ?_)
               have hlz : x.kind = 6 ∨ x.lazy = false := by first | (left; omega) | (right; simpa using hs117)
               refine ⟨_, rfl, ?_, hE46, fun hb => ?_⟩
               · simp only [decide_eq_true_eq]
                 constructor
                 · intro hnm
                   exact ⟨(nodeP_iff x).2 (by constructor <;> first | omega | (right; assumption) | (left; omega) | exact hlz | exact .inr hnm | (intro hk; exact hcb.1 (by simpa using hc36)) | (intro hk; exfalso; omega)), by intro hk; exfalso; omega⟩
                 · intro hh; obtain ⟨hh, hh2⟩ := hh; have hf := (nodeP_iff x).1 hh; exact hf.zn.resolve_left (by omega)
               · rw [if_neg (by omega)]; exact ⟨a, c, ob, ⟨hB47, hO48, hne⟩, .inl rfl⟩
              ·skip
               refine wl_n ?_; refine wl_n ?_; refine wl_n ?_; refine wl_pf ?_; refine wl_a ?_; refine wl_nil (nrm_then ?_); refine cw_ret (body_ret1 rfl rfl ?_)
               exact ⟨false, rfl, by simp only [Bool.false_eq_true, false_iff]; intro hh; obtain ⟨hh, hh2⟩ := hh; have hf := (nodeP_iff x).1 hh; (have f1 := hf.zc; omega), hE46, fun h => by cases h⟩
             ·skip
              refine wl_n ?_; refine wl_n ?_; refine wl_n ?_; refine wl_pf ?_; refine wl_m ?_; refine wl_n ?_; refine wl_n ?_; refine wl_n ?_; refine wl_pf ?_; refine wl_a ?_; refine wl_nil (nrm_then ?_); refine cw_ret (body_ret1 rfl rfl ?_)
              exact ⟨false, rfl, by simp only [Bool.false_eq_true, false_iff]; intro hh; obtain ⟨hh, hh2⟩ := hh; have hf := (nodeP_iff x).1 hh; (first | (rcases hf.zl with h | h; omega; rw [h] at hs117; cases hs117; done) | cases hs117), hE46, fun h => by cases h⟩
            ·skip
             refine wl_n ?_; refine wl_n ?_; refine wl_n ?_; refine wl_pf ?_; refine wl_m ?_; refine wl_n ?_; refine wl_n ?_; refine wl_n ?_; refine wl_pf ?_; refine wl_m ?_; refine wl_n ?_; refine wl_n ?_; refine wl_n ?_; refine wl_pf ?_; refine wl_a ?_; refine wl_nil (nrm_then ?_); refine cw_ret (body_ret1 rfl rfl ?_)
             exact ⟨false, rfl, by simp only [Bool.false_eq_true, false_iff]; intro hh; obtain ⟨hh, hh2⟩ := hh; have hf := (nodeP_iff x).1 hh; (have f1 := hf.zm2; omega), hE46, fun h => by cases h⟩
           ·skip
            refine wl_n ?_; refine wl_n ?_; refine wl_n ?_; refine wl_pf ?_; refine wl_m ?_; refine wl_n ?_; refine wl_n ?_; refine wl_n ?_; refine wl_pf ?_; refine wl_m ?_; refine wl_n ?_; refine wl_n ?_; refine wl_n ?_; refine wl_pf ?_; refine wl_m ?_; refine wl_n ?_; refine wl_n ?_; refine wl_n ?_; refine wl_pf ?_; refine wl_a ?_; refine wl_nil (nrm_then ?_); refine cw_ret (body_ret1 rfl rfl ?_)
            exact ⟨false, rfl, by simp only [Bool.false_eq_true, false_iff]; intro hh; obtain ⟨hh, hh2⟩ := hh; have hf := (nodeP_iff x).1 hh; (have f1 := hf.zm1; omega), hE46, fun h => by cases h⟩
          ·skip
           refine wl_n ?_; refine wl_n ?_; refine wl_n ?_; refine wl_pf ?_; refine wl_m ?_; refine wl_n ?_; refine wl_n ?_; refine wl_n ?_; refine wl_pf ?_; refine wl_m ?_; refine wl_n ?_; refine wl_n ?_; refine wl_n ?_; refine wl_pf ?_; refine wl_m ?_; refine wl_n ?_; refine wl_n ?_; refine wl_n ?_; refine wl_pf ?_; refine wl_m ?_; refine wl_n ?_; refine wl_n ?_; refine wl_n ?_; refine wl_pf ?_; refine wl_a ?_; refine wl_nil (nrm_then ?_); refine cw_ret (body_ret1 rfl rfl ?_)
           exact ⟨false, rfl, by simp only [Bool.false_eq_true, false_iff]; intro hh; obtain ⟨hh, hh2⟩ := hh; have hf := (nodeP_iff x).1 hh; (have f1 := hf.zg; omega), hE46, fun h => by cases h⟩
         ·skip
          refine wl_n ?_; refine wl_n ?_; refine wl_n ?_; refine wl_n ?_; refine wl_pf ?_; refine wl_m ?_; refine wl_n ?_; refine wl_n ?_; refine wl_n ?_; refine wl_pf ?_; refine wl_m ?_; refine wl_n ?_; refine wl_n ?_; refine wl_n ?_; refine wl_pf ?_; refine wl_m ?_; refine wl_n ?_; refine wl_n ?_; refine wl_n ?_; refine wl_pf ?_; refine wl_m ?_; refine wl_n ?_; refine wl_n ?_; refine wl_n ?_; refine wl_pf ?_; refine wl_m ?_; refine wl_n ?_; refine wl_n ?_; refine wl_n ?_; refine wl_pf ?_; refine wl_a ?_; refine wl_nil (nrm_then ?_); refine cw_ret (body_ret1 rfl rfl ?_)
          exact ⟨false, rfl, by simp only [Bool.false_eq_true, false_iff]; intro hh; obtain ⟨hh, hh2⟩ := hh; have hf := (nodeP_iff x).1 hh; (have f1 := hf.zr; omega), hE46, fun h => by cases h⟩
        ·skip
         refine wl_n ?_; refine wl_n ?_; refine wl_n ?_; refine wl_pf ?_; refine wl_m ?_; refine wl_n ?_; refine wl_n ?_; refine wl_n ?_; refine wl_n ?_; refine wl_pf ?_; refine wl_m ?_; refine wl_n ?_; refine wl_n ?_; refine wl_n ?_; refine wl_pf ?_; refine wl_m ?_; refine wl_n ?_; refine wl_n ?_; refine wl_n ?_; refine wl_pf ?_; refine wl_m ?_; refine wl_n ?_; refine wl_n ?_; refine wl_n ?_; refine wl_pf ?_; refine wl_m ?_; refine wl_n ?_; refine wl_n ?_; refine wl_n ?_; refine wl_pf ?_; refine wl_m ?_; refine wl_n ?_; refine wl_n ?_; refine wl_n ?_; refine wl_pf ?_; refine wl_a ?_; refine wl_nil (nrm_then ?_); refine cw_ret (body_ret1 rfl rfl ?_)
         exact ⟨false, rfl, by simp only [Bool.false_eq_true, false_iff]; intro hh; obtain ⟨hh, hh2⟩ := hh; have hf := (nodeP_iff x).1 hh; (have f1 := hf.two; have f2 := hf.rep4; have f3 := hf.grp; have f4 := hf.leaf; omega), hE46, fun h => by cases h⟩
       ·skip
        refine cw_seq ?_; refine cw_region ?_; refine wl_val rfl (ex_eql rfl rfl) ?_; refine wl_a ?_; refine wl_nil (nrm_then ?_); refine cw_if rfl (fun hc45 => ?_) (fun hc45 => ?_)
        ·skip
         refine cw_seq ?_; refine cw_seq ?_; refine cw_region ?_; refine wl_val rfl (ex_fieldAddr rfl Try.fld25_3) ?_; refine wl_val rfl (ex_load1 rfl Try.agg3 (cell_nth hB49 rfl)) ?_; refine wl_val rfl (ex_lss rfl rfl) ?_; refine wl_m ?_; refine wl_split (t := 50) rfl (fun hs50 => ?_) (fun hs50 => ?_)
         ·skip
          refine wl_n ?_; refine wl_n ?_; refine wl_n ?_; refine wl_pt ?_; refine wl_m ?_; refine wl_n ?_; refine wl_n ?_; refine wl_n ?_; refine wl_n ?_; refine wl_u ?_; refine wl_u ?_; refine wl_u ?_; refine wl_u ?_; refine wl_u ?_; refine wl_u ?_; refine wl_u ?_; refine wl_u ?_; refine wl_u ?_; refine wl_u ?_; refine wl_n ?_; refine wl_pt ?_; refine wl_nil (nrm_then ?_); refine cw_true rfl ?_; refine cw_seq ?_; refine cw_region ?_; refine wl_a ?_; refine wl_nil (nrm_then ?_); refine cw_ret (ret_then (ret_block (ret_then (body_ret1 rfl rfl ?_))))
          exact ⟨false, rfl, by simp only [Bool.false_eq_true, false_iff]; intro hh; obtain ⟨hh, hh2⟩ := hh; have hf := (nodeP_iff x).1 hh; (have f1 := hf.rep1; omega), hE46, fun h => by cases h⟩
         ·skip
          refine wl_g ?_; refine wl_val rfl (ex_fieldAddr rfl Try.fld25_3) ?_; refine wl_g ?_; refine wl_val rfl (ex_load1 rfl Try.agg3 (cell_nth hB49 rfl)) ?_; refine wl_g ?_; refine wl_val rfl (ex_gtr rfl rfl) ?_; refine wl_pf ?_; refine wl_m ?_; refine wl_split (t := 55) rfl (fun hs55 => ?_) (fun hs55 => ?_)
          ·skip
           refine wl_n ?_; refine wl_n ?_; refine wl_n ?_; refine wl_n ?_; refine wl_u ?_; refine wl_u ?_; refine wl_u ?_; refine wl_u ?_; refine wl_u ?_; refine wl_u ?_; refine wl_u ?_; refine wl_u ?_; refine wl_u ?_; refine wl_u ?_; refine wl_n ?_; refine wl_pt ?_; refine wl_nil (nrm_then ?_); refine cw_true rfl ?_; refine cw_seq ?_; refine cw_region ?_; refine wl_a ?_; refine wl_nil (nrm_then ?_); refine cw_ret (ret_then (ret_block (ret_then (body_ret1 rfl rfl ?_))))
           exact ⟨false, rfl, by simp only [Bool.false_eq_true, false_iff]; intro hh; obtain ⟨hh, hh2⟩ := hh; have hf := (nodeP_iff x).1 hh; (have f1 := hf.rep1; have f2 := hf.rep2; have f3 := hf.rep3; omega), hE46, fun h => by cases h⟩
          ·skip
           refine wl_g ?_; refine wl_val rfl (ex_fieldAddr rfl Try.fld25_4) ?_; refine wl_g ?_; refine wl_val rfl (ex_load1 rfl Try.agg3 (cell_nth hB49 rfl)) ?_; refine wl_g ?_; refine wl_val rfl (ex_neq rfl rfl) ?_; refine wl_g ?_; refine wl_m ?_; refine wl_split (t := 59) rfl (fun hs59 => ?_) (fun hs59 => ?_)
           ·skip
            refine wl_g ?_; refine wl_val rfl (ex_fieldAddr rfl Try.fld25_4) ?_; refine wl_g ?_; refine wl_val rfl (ex_load1 rfl Try.agg3 (cell_nth hB49 rfl)) ?_; refine wl_g ?_; refine wl_val rfl (ex_fieldAddr rfl Try.fld25_3) ?_; refine wl_g ?_; refine wl_val rfl (ex_load1 rfl Try.agg3 (cell_nth hB49 rfl)) ?_; refine wl_g ?_; refine wl_val rfl (ex_lss rfl rfl) ?_; refine wl_g ?_; refine wl_m ?_; refine wl_split (t := 65) rfl (fun hs65 => ?_) (fun hs65 => ?_)
            ·skip
             refine wl_n ?_; refine wl_n ?_; refine wl_n ?_; refine wl_g ?_; refine wl_pt ?_; refine wl_g ?_; refine wl_pt ?_; refine wl_pf ?_; refine wl_nil (nrm_then ?_); refine cw_true rfl ?_; refine cw_seq ?_; refine cw_region ?_; refine wl_a ?_; refine wl_nil (nrm_then ?_); refine cw_ret (ret_then (ret_block (ret_then (body_ret1 rfl rfl ?_))))
             exact ⟨false, rfl, by simp only [Bool.false_eq_true, false_iff]; intro hh; obtain ⟨hh, hh2⟩ := hh; have hf := (nodeP_iff x).1 hh; (have f1 := hf.rep1; have f2 := hf.rep2; have f3 := hf.rep3; omega), hE46, fun h => by cases h⟩
            ·skip
             refine wl_g ?_; refine wl_val rfl (ex_fieldAddr rfl Try.fld25_4) ?_; refine wl_g ?_; refine wl_val rfl (ex_load1 rfl Try.agg3 (cell_nth hB49 rfl)) ?_; refine wl_g ?_; refine wl_val rfl (ex_gtr rfl rfl) ?_; refine wl_g ?_; refine wl_pf ?_; refine wl_g ?_; refine wl_pt ?_; refine wl_pf ?_; refine wl_nil (nrm_then ?_); refine cw_if rfl (fun hc71 => ?_) (fun hc71 => ?_)
             ·skip
              refine cw_seq ?_; refine cw_region ?_; refine wl_a ?_; refine wl_nil (nrm_then ?_); refine cw_ret (ret_then (ret_block (ret_then (body_ret1 rfl rfl ?_))))
              exact ⟨false, rfl, by simp only [Bool.false_eq_true, false_iff]; intro hh; obtain ⟨hh, hh2⟩ := hh; have hf := (nodeP_iff x).1 hh; (have f1 := hf.rep1; have f2 := hf.rep2; have f3 := hf.rep3; omega), hE46, fun h => by cases h⟩
             ·skip
              refine cw_skip (nrm_then ?_); refine cw_seq ?_; refine cw_region ?_; refine wl_val rfl (ex_fieldAddr rfl Try.fld25_3) ?_; refine wl_store1 rfl rfl (by first | rfl | assumption) Try.size3 hB50 rfl fun w133 hB134 hw135 => ?_; have hE136 := hE46.step hw135 hG18.mem1; have hB137 := hw135.blk hB47 hA15.nmem1; have hO138 := hO48.evo hw135 hA16.own1; have hB139 := hw135.blk hB49 hA17.nmem1
              try simp only [List.setIfInBounds_toArray, List.set_cons_zero, List.set_cons_succ, Nat.reduceAdd, Nat.zero_add, Nat.add_zero] at hB134
              refine wl_val rfl (ex_fieldAddr rfl Try.fld25_4) ?_; refine wl_store1 rfl rfl (by first | rfl | assumption) Try.size3 hB134 rfl fun w140 hB141 hw142 => ?_; have hE143 := hE136.step hw142 hG18.mem1; have hB144 := hw142.blk hB137 hA15.nmem1; have hO145 := hO138.evo hw142 hA16.own1; have hB146 := hw142.blk hB139 hA17.nmem1
              try simp only [List.setIfInBounds_toArray, List.set_cons_zero, List.set_cons_succ, Nat.reduceAdd, Nat.zero_add, Nat.add_zero] at hB141
              refine wl_val rfl (ex_fieldAddr rfl Try.fld25_5) ?_; refine wl_store1 rfl rfl (by first | rfl | assumption) Try.size4 hB141 rfl fun w147 hB148 hw149 => ?_; have hE150 := hE143.step hw149 hG18.mem1; have hB151 := hw149.blk hB144 hA15.nmem1; have hO152 := hO145.evo hw149 hA16.own1; have hB153 := hw149.blk hB146 hA17.nmem1
              try simp only [List.setIfInBounds_toArray, List.set_cons_zero, List.set_cons_succ, Nat.reduceAdd, Nat.zero_add, Nat.add_zero] at hB148
              refine wl_nil (nrm_then ?_); refine cw_region ?_; refine wl_a ?_; refine wl_nil (nrm_block (nrm_then ?_)); refine cw_seq ?_; refine cw_region ?_; refine wl_val rfl (ex_fieldAddr rfl Try.fld25_8) ?_; refine wl_val rfl (ex_load1 rfl Try.agg23 (cell_nth hB153 rfl)) ?_; refine wl_val rfl (ex_len_slice rfl Try.underlying23 rfl) ?_; refine wl_m ?_; refine wl_val rfl (ex_eql rfl rfl) ?_; refine wl_m ?_; refine wl_split (t := 91) rfl (fun hs91 => ?_) (fun hs91 => ?_)
              ·skip
               refine wl_g ?_; refine wl_val rfl (ex_fieldAddr rfl Try.fld25_1) ?_; refine wl_g ?_; refine wl_val rfl (ex_load1 rfl Try.agg21 (cell_nth hB148 rfl)) ?_; refine wl_g ?_; refine wl_val rfl (ex_eql rfl rfl) ?_; refine wl_pt ?_; refine wl_m ?_; refine wl_split (t := 96) rfl (fun hs96 => ?_) (fun hs96 => ?_)
               ·skip
                refine wl_g ?_; refine wl_val rfl (ex_fieldAddr rfl Try.fld25_2) ?_; refine wl_g ?_; refine wl_val rfl (ex_load1 rfl Try.agg22 (cell_nth hB148 rfl)) ?_; refine wl_g ?_; refine wl_val rfl (ex_len_slice rfl Try.underlying22 rfl) ?_; refine wl_g ?_; refine wl_val rfl (ex_eql rfl rfl) ?_; refine wl_pt ?_; refine wl_m ?_; refine wl_split (t := 102) rfl (fun hs102 => ?_) (fun hs102 => ?_)
                ·skip
                 refine wl_g ?_; refine wl_val rfl (ex_fieldAddr rfl Try.fld25_3) ?_; refine wl_g ?_; refine wl_val rfl (ex_load1 rfl Try.agg3 (cell_nth hB148 rfl)) ?_; refine wl_g ?_; refine wl_val rfl (ex_eql rfl rfl) ?_; refine wl_pt ?_; refine wl_m ?_; refine wl_split (t := 107) rfl (fun hs107 => ?_) (fun hs107 => ?_)
                 ·skip
                  refine wl_g ?_; refine wl_val rfl (ex_fieldAddr rfl Try.fld25_4) ?_; refine wl_g ?_; refine wl_val rfl (ex_load1 rfl Try.agg3 (cell_nth hB148 rfl)) ?_; refine wl_g ?_; refine wl_val rfl (ex_eql rfl rfl) ?_; refine wl_pt ?_; refine wl_m ?_; refine wl_split (t := 112) rfl (fun hs112 => ?_) (fun hs112 => ?_)
                  ·skip
                   refine wl_g ?_; refine wl_val rfl (ex_fieldAddr rfl Try.fld25_5) ?_; refine wl_g ?_; refine wl_val rfl (ex_load1 rfl Try.agg4 (cell_nth hB148 rfl)) ?_; refine wl_g ?_; refine wl_val rfl (ex_notb rfl) ?_; refine wl_pt ?_; refine wl_m ?_; refine wl_splitb (t := 117) rfl (fun hs117 => ?_) (fun hs117 => ?_)
                   ·skip
                    refine wl_g ?_; refine wl_val rfl (ex_fieldAddr rfl Try.fld25_6) ?_; refine wl_g ?_; refine wl_val rfl (ex_load1 rfl Try.agg3 (cell_nth hB148 rfl)) ?_; refine wl_g ?_; refine wl_val rfl (ex_eql rfl rfl) ?_; refine wl_pt ?_; refine wl_m ?_; refine wl_split (t := 122) rfl (fun hs122 => ?_) (fun hs122 => ?_)
                    ·skip
                     refine wl_g ?_; refine wl_val rfl (ex_fieldAddr rfl Try.fld25_7) ?_; refine wl_g ?_; refine wl_val rfl (ex_load1 rfl Try.agg9 (cell_nth hB148 rfl)) ?_; refine wl_g ?_; refine wl_val rfl (ex_eqs rfl rfl) ?_; refine wl_pt ?_; refine wl_a ?_; refine wl_nil (nrm_then ?_); refine cw_ret (body_ret1 rfl rfl ?_)
                     have hlz : x.kind = 6 ∨ x.lazy = false := by first | (left; omega) | (right; simpa using hs117)
                     refine ⟨_, rfl, ?_, hE150, fun hb => ?_⟩
                     · simp only [decide_eq_true_eq]
                       constructor
                       · intro hnm
                         exact ⟨(nodeP_iff x).2 (by constructor <;> first | omega | (right; assumption) | (left; omega) | exact hlz | exact .inr hnm | (intro hk; exact hcb.1 (by simpa using hc36)) | (intro hk; exfalso; omega)), by intro hk; exfalso; omega⟩
                       · intro hh; obtain ⟨hh, hh2⟩ := hh; have hf := (nodeP_iff x).1 hh; exact hf.zn.resolve_left (by omega)
                     · rw [if_neg (by omega)]; exact ⟨a, c, ob, ⟨hB151, hO152, hne⟩, .inl rfl⟩
                    ·skip
                     refine wl_n ?_; refine wl_n ?_; refine wl_n ?_; refine wl_pf ?_; refine wl_a ?_; refine wl_nil (nrm_then ?_); refine cw_ret (body_ret1 rfl rfl ?_)
                     exact ⟨false, rfl, by simp only [Bool.false_eq_true, false_iff]; intro hh; obtain ⟨hh, hh2⟩ := hh; have hf := (nodeP_iff x).1 hh; (have f1 := hf.zc; omega), hE150, fun h => by cases h⟩
                   ·skip
                    refine wl_n ?_; refine wl_n ?_; refine wl_n ?_; refine wl_pf ?_; refine wl_m ?_; refine wl_n ?_; refine wl_n ?_; refine wl_n ?_; refine wl_pf ?_; refine wl_a ?_; refine wl_nil (nrm_then ?_); refine cw_ret (body_ret1 rfl rfl ?_)
                    exact ⟨false, rfl, by simp only [Bool.false_eq_true, false_iff]; intro hh; obtain ⟨hh, hh2⟩ := hh; have hf := (nodeP_iff x).1 hh; (first | (rcases hf.zl with h | h; omega; rw [h] at hs117; cases hs117; done) | cases hs117), hE150, fun h => by cases h⟩
                  ·skip
                   refine wl_n ?_; refine wl_n ?_; refine wl_n ?_; refine wl_pf ?_; refine wl_m ?_; refine wl_n ?_; refine wl_n ?_; refine wl_n ?_; refine wl_pf ?_; refine wl_m ?_; refine wl_n ?_; refine wl_n ?_; refine wl_n ?_; refine wl_pf ?_; refine wl_a ?_; refine wl_nil (nrm_then ?_); refine cw_ret (body_ret1 rfl rfl ?_)
                   exact ⟨false, rfl, by simp only [Bool.false_eq_true, false_iff]; intro hh; obtain ⟨hh, hh2⟩ := hh; have hf := (nodeP_iff x).1 hh; (have f1 := hf.zm2; omega), hE150, fun h => by cases h⟩
                 ·skip
                  refine wl_n ?_; refine wl_n ?_; refine wl_n ?_; refine wl_pf ?_; refine wl_m ?_; refine wl_n ?_; refine wl_n ?_; refine wl_n ?_; refine wl_pf ?_; refine wl_m ?_; refine wl_n ?_; refine wl_n ?_; refine wl_n ?_; refine wl_pf ?_; refine wl_m ?_; refine wl_n ?_; refine wl_n ?_; refine wl_n ?_; refine wl_pf ?_; refine wl_a ?_; refine wl_nil (nrm_then ?_); refine cw_ret (body_ret1 rfl rfl ?_)
                  exact ⟨false, rfl, by simp only [Bool.false_eq_true, false_iff]; intro hh; obtain ⟨hh, hh2⟩ := hh; have hf := (nodeP_iff x).1 hh; (have f1 := hf.zm1; omega), hE150, fun h => by cases h⟩
                ·skip
                 refine wl_n ?_; refine wl_n ?_; refine wl_n ?_; refine wl_pf ?_; refine wl_m ?_; refine wl_n ?_; refine wl_n ?_; refine wl_n ?_; refine wl_pf ?_; refine wl_m ?_; refine wl_n ?_; refine wl_n ?_; refine wl_n ?_; refine wl_pf ?_; refine wl_m ?_; refine wl_n ?_; refine wl_n ?_; refine wl_n ?_; refine wl_pf ?_; refine wl_m ?_; refine wl_n ?_; refine wl_n ?_; refine wl_n ?_; refine wl_pf ?_; refine wl_a ?_; refine wl_nil (nrm_then ?_); refine cw_ret (body_ret1 rfl rfl ?_)
                 exact ⟨false, rfl, by simp only [Bool.false_eq_true, false_iff]; intro hh; obtain ⟨hh, hh2⟩ := hh; have hf := (nodeP_iff x).1 hh; (have f1 := hf.zg; omega), hE150, fun h => by cases h⟩
               ·skip
                refine wl_n ?_; refine wl_n ?_; refine wl_n ?_; refine wl_n ?_; refine wl_pf ?_; refine wl_m ?_; refine wl_n ?_; refine wl_n ?_; refine wl_n ?_; refine wl_pf ?_; refine wl_m ?_; refine wl_n ?_; refine wl_n ?_; refine wl_n ?_; refine wl_pf ?_; refine wl_m ?_; refine wl_n ?_; refine wl_n ?_; refine wl_n ?_; refine wl_pf ?_; refine wl_m ?_; refine wl_n ?_; refine wl_n ?_; refine wl_n ?_; refine wl_pf ?_; refine wl_m ?_; refine wl_n ?_; refine wl_n ?_; refine wl_n ?_; refine wl_pf ?_; refine wl_a ?_; refine wl_nil (nrm_then ?_); refine cw_ret (body_ret1 rfl rfl ?_)
                exact ⟨false, rfl, by simp only [Bool.false_eq_true, false_iff]; intro hh; obtain ⟨hh, hh2⟩ := hh; have hf := (nodeP_iff x).1 hh; (have f1 := hf.zr; omega), hE150, fun h => by cases h⟩
              ·skip
               refine wl_n ?_; refine wl_n ?_; refine wl_n ?_; refine wl_pf ?_; refine wl_m ?_; refine wl_n ?_; refine wl_n ?_; refine wl_n ?_; refine wl_n ?_; refine wl_pf ?_; refine wl_m ?_; refine wl_n ?_; refine wl_n ?_; refine wl_n ?_; refine wl_pf ?_; refine wl_m ?_; refine wl_n ?_; refine wl_n ?_; refine wl_n ?_; refine wl_pf ?_; refine wl_m ?_; refine wl_n ?_; refine wl_n ?_; refine wl_n ?_; refine wl_pf ?_; refine wl_m ?_; refine wl_n ?_; refine wl_n ?_; refine wl_n ?_; refine wl_pf ?_; refine wl_m ?_; refine wl_n ?_; refine wl_n ?_; refine wl_n ?_; refine wl_pf ?_; refine wl_a ?_; refine wl_nil (nrm_then ?_); refine cw_ret (body_ret1 rfl rfl ?_)
               exact ⟨false, rfl, by simp only [Bool.false_eq_true, false_iff]; intro hh; obtain ⟨hh, hh2⟩ := hh; have hf := (nodeP_iff x).1 hh; (have f1 := hf.two; have f2 := hf.rep4; have f3 := hf.grp; have f4 := hf.leaf; omega), hE150, fun h => by cases h⟩
           ·skip
            refine wl_n ?_; refine wl_n ?_; refine wl_n ?_; refine wl_n ?_; refine wl_n ?_; refine wl_n ?_; refine wl_u ?_; refine wl_u ?_; refine wl_u ?_; refine wl_n ?_; refine wl_g ?_; refine wl_pf ?_; refine wl_pf ?_; refine wl_nil (nrm_then ?_); refine cw_false rfl ?_; refine cw_skip (nrm_then ?_); refine cw_seq ?_; refine cw_region ?_; refine wl_val rfl (ex_fieldAddr rfl Try.fld25_3) ?_; refine wl_store1 rfl rfl (by first | rfl | assumption) Try.size3 hB50 rfl fun w154 hB155 hw156 => ?_; have hE157 := hE46.step hw156 hG18.mem1; have hB158 := hw156.blk hB47 hA15.nmem1; have hO159 := hO48.evo hw156 hA16.own1; have hB160 := hw156.blk hB49 hA17.nmem1
            try simp only [List.setIfInBounds_toArray, List.set_cons_zero, List.set_cons_succ, Nat.reduceAdd, Nat.zero_add, Nat.add_zero] at hB155
            refine wl_val rfl (ex_fieldAddr rfl Try.fld25_4) ?_; refine wl_store1 rfl rfl (by first | rfl | assumption) Try.size3 hB155 rfl fun w161 hB162 hw163 => ?_; have hE164 := hE157.step hw163 hG18.mem1; have hB165 := hw163.blk hB158 hA15.nmem1; have hO166 := hO159.evo hw163 hA16.own1; have hB167 := hw163.blk hB160 hA17.nmem1
            try simp only [List.setIfInBounds_toArray, List.set_cons_zero, List.set_cons_succ, Nat.reduceAdd, Nat.zero_add, Nat.add_zero] at hB162
            refine wl_val rfl (ex_fieldAddr rfl Try.fld25_5) ?_; refine wl_store1 rfl rfl (by first | rfl | assumption) Try.size4 hB162 rfl fun w168 hB169 hw170 => ?_; have hE171 := hE164.step hw170 hG18.mem1; have hB172 := hw170.blk hB165 hA15.nmem1; have hO173 := hO166.evo hw170 hA16.own1; have hB174 := hw170.blk hB167 hA17.nmem1
            try simp only [List.setIfInBounds_toArray, List.set_cons_zero, List.set_cons_succ, Nat.reduceAdd, Nat.zero_add, Nat.add_zero] at hB169
            refine wl_nil (nrm_then ?_); refine cw_region ?_; refine wl_a ?_; refine wl_nil (nrm_block (nrm_then ?_)); refine cw_seq ?_; refine cw_region ?_; refine wl_val rfl (ex_fieldAddr rfl Try.fld25_8) ?_; refine wl_val rfl (ex_load1 rfl Try.agg23 (cell_nth hB174 rfl)) ?_; refine wl_val rfl (ex_len_slice rfl Try.underlying23 rfl) ?_; refine wl_m ?_; refine wl_val rfl (ex_eql rfl rfl) ?_; refine wl_m ?_; refine wl_split (t := 91) rfl (fun hs91 => ?_) (fun hs91 => ?_)
            ·skip
             refine wl_g ?_; refine wl_val rfl (ex_fieldAddr rfl Try.fld25_1) ?_; refine wl_g ?_; refine wl_val rfl (ex_load1 rfl Try.agg21 (cell_nth hB169 rfl)) ?_; refine wl_g ?_; refine wl_val rfl (ex_eql rfl rfl) ?_; refine wl_pt ?_; refine wl_m ?_; refine wl_split (t := 96) rfl (fun hs96 => ?_) (fun hs96 => ?_)
             ·skip
              refine wl_g ?_; refine wl_val rfl (ex_fieldAddr rfl Try.fld25_2) ?_; refine wl_g ?_; refine wl_val rfl (ex_load1 rfl Try.agg22 (cell_nth hB169 rfl)) ?_; refine wl_g ?_; refine wl_val rfl (ex_len_slice rfl Try.underlying22 rfl) ?_; refine wl_g ?_; refine wl_val rfl (ex_eql rfl rfl) ?_; refine wl_pt ?_; refine wl_m ?_; refine wl_split (t := 102) rfl (fun hs102 => ?_) (fun hs102 => ?_)
              ·skip
               refine wl_g ?_; refine wl_val rfl (ex_fieldAddr rfl Try.fld25_3) ?_; refine wl_g ?_; refine wl_val rfl (ex_load1 rfl Try.agg3 (cell_nth hB169 rfl)) ?_; refine wl_g ?_; refine wl_val rfl (ex_eql rfl rfl) ?_; refine wl_pt ?_; refine wl_m ?_; refine wl_split (t := 107) rfl (fun hs107 => ?_) (fun hs107 => ?_)
               ·skip
                refine wl_g ?_; refine wl_val rfl (ex_fieldAddr rfl Try.fld25_4) ?_; refine wl_g ?_; refine wl_val rfl (ex_load1 rfl Try.agg3 (cell_nth hB169 rfl)) ?_; refine wl_g ?_; refine wl_val rfl (ex_eql rfl rfl) ?_; refine wl_pt ?_; refine wl_m ?_; refine wl_split (t := 112) rfl (fun hs112 => ?_) (fun hs112 => ?_)
                ·skip
                 refine wl_g ?_; refine wl_val rfl (ex_fieldAddr rfl Try.fld25_5) ?_; refine wl_g ?_; refine wl_val rfl (ex_load1 rfl Try.agg4 (cell_nth hB169 rfl)) ?_; refine wl_g ?_; refine wl_val rfl (ex_notb rfl) ?_; refine wl_pt ?_; refine wl_m ?_; refine wl_splitb (t := 117) rfl (fun hs117 => ?_) (fun hs117 => ?_)
                 ·skip
                  refine wl_g ?_; refine wl_val rfl (ex_fieldAddr rfl Try.fld25_6) ?_; refine wl_g ?_; refine wl_val rfl (ex_load1 rfl Try.agg3 (cell_nth hB169 rfl)) ?_; refine wl_g ?_; refine wl_val rfl (ex_eql rfl rfl) ?_; refine wl_pt ?_; refine wl_m ?_; refine wl_split (t := 122) rfl (fun hs122 => ?_) (fun hs122 => ?_)
                  ·skip
                   refine wl_g ?_; refine wl_val rfl (ex_fieldAddr rfl Try.fld25_7) ?_; refine wl_g ?_; refine wl_val rfl (ex_load1 rfl Try.agg9 (cell_nth hB169 rfl)) ?_; refine wl_g ?_; refine wl_val rfl (ex_eqs rfl rfl) ?_; refine wl_pt ?_; refine wl_a ?_; refine wl_nil (nrm_then ?_); refine cw_ret (body_ret1 rfl rfl ?_)
                   have hlz : x.kind = 6 ∨ x.lazy = false := by first | (left; omega) | (right; simpa using hs117)
                   refine ⟨_, rfl, ?_, hE171, fun hb => ?_⟩
                   · simp only [decide_eq_true_eq]
                     constructor
                     · intro hnm
                       exact ⟨(nodeP_iff x).2 (by constructor <;> first | omega | (right; assumption) | (left; omega) | exact hlz | exact .inr hnm | (intro hk; exact hcb.1 (by simpa using hc36)) | (intro hk; exfalso; omega)), by intro hk; exfalso; omega⟩
                     · intro hh; obtain ⟨hh, hh2⟩ := hh; have hf := (nodeP_iff x).1 hh; exact hf.zn.resolve_left (by omega)
                   · rw [if_neg (by omega)]; exact ⟨a, c, ob, ⟨hB172, hO173, hne⟩, .inl rfl⟩
                  ·skip
                   refine wl_n ?_; refine wl_n ?_; refine wl_n ?_; refine wl_pf ?_; refine wl_a ?_; refine wl_nil (nrm_then ?_); refine cw_ret (body_ret1 rfl rfl ?_)
                   exact ⟨false, rfl, by simp only [Bool.false_eq_true, false_iff]; intro hh; obtain ⟨hh, hh2⟩ := hh; have hf := (nodeP_iff x).1 hh; (have f1 := hf.zc; omega), hE171, fun h => by cases h⟩
                 ·skip
                  refine wl_n ?_; refine wl_n ?_; refine wl_n ?_; refine wl_pf ?_; refine wl_m ?_; refine wl_n ?_; refine wl_n ?_; refine wl_n ?_; refine wl_pf ?_; refine wl_a ?_; refine wl_nil (nrm_then ?_); refine cw_ret (body_ret1 rfl rfl ?_)
                  exact ⟨false, rfl, by simp only [Bool.false_eq_true, false_iff]; intro hh; obtain ⟨hh, hh2⟩ := hh; have hf := (nodeP_iff x).1 hh; (first | (rcases hf.zl with h | h; omega; rw [h] at hs117; cases hs117; done) | cases hs117), hE171, fun h => by cases h⟩
                ·skip
                 refine wl_n ?_; refine wl_n ?_; refine wl_n ?_; refine wl_pf ?_; refine wl_m ?_; refine wl_n ?_; refine wl_n ?_; refine wl_n ?_; refine wl_pf ?_; refine wl_m ?_; refine wl_n ?_; refine wl_n ?_; refine wl_n ?_; refine wl_pf ?_; refine wl_a ?_; refine wl_nil (nrm_then ?_); refine cw_ret (body_ret1 rfl rfl ?_)
                 exact ⟨false, rfl, by simp only [Bool.false_eq_true, false_iff]; intro hh; obtain ⟨hh, hh2⟩ := hh; have hf := (nodeP_iff x).1 hh; (have f1 := hf.zm2; omega), hE171, fun h => by cases h⟩
               ·skip
                refine wl_n ?_; refine wl_n ?_; refine wl_n ?_; refine wl_pf ?_; refine wl_m ?_; refine wl_n ?_; refine wl_n ?_; refine wl_n ?_; refine wl_pf ?_; refine wl_m ?_; refine wl_n ?_; refine wl_n ?_; refine wl_n ?_; refine wl_pf ?_; refine wl_m ?_; refine wl_n ?_; refine wl_n ?_; refine wl_n ?_; refine wl_pf ?_; refine wl_a ?_; refine wl_nil (nrm_then ?_); refine cw_ret (body_ret1 rfl rfl ?_)
                exact ⟨false, rfl, by simp only [Bool.false_eq_true, false_iff]; intro hh; obtain ⟨hh, hh2⟩ := hh; have hf := (nodeP_iff x).1 hh; (have f1 := hf.zm1; omega), hE171, fun h => by cases h⟩
              ·skip
               refine wl_n ?_; refine wl_n ?_; refine wl_n ?_; refine wl_pf ?_; refine wl_m ?_; refine wl_n ?_; refine wl_n ?_; refine wl_n ?_; refine wl_pf ?_; refine wl_m ?_; refine wl_n ?_; refine wl_n ?_; refine wl_n ?_; refine wl_pf ?_; refine wl_m ?_; refine wl_n ?_; refine wl_n ?_; refine wl_n ?_; refine wl_pf ?_; refine wl_m ?_; refine wl_n ?_; refine wl_n ?_; refine wl_n ?_; refine wl_pf ?_; refine wl_a ?_; refine wl_nil (nrm_then ?_); refine cw_ret (body_ret1 rfl rfl ?_)
               exact ⟨false, rfl, by simp only [Bool.false_eq_true, false_iff]; intro hh; obtain ⟨hh, hh2⟩ := hh; have hf := (nodeP_iff x).1 hh; (have f1 := hf.zg; omega), hE171, fun h => by cases h⟩
             ·skip
              refine wl_n ?_; refine wl_n ?_; refine wl_n ?_; refine wl_n ?_; refine wl_pf ?_; refine wl_m ?_; refine wl_n ?_; refine wl_n ?_; refine wl_n ?_; refine wl_pf ?_; refine wl_m ?_; refine wl_n ?_; refine wl_n ?_; refine wl_n ?_; refine wl_pf ?_; refine wl_m ?_; refine wl_n ?_; refine wl_n ?_; refine wl_n ?_; refine wl_pf ?_; refine wl_m ?_; refine wl_n ?_; refine wl_n ?_; refine wl_n ?_; refine wl_pf ?_; refine wl_m ?_; refine wl_n ?_; refine wl_n ?_; refine wl_n ?_; refine wl_pf ?_; refine wl_a ?_; refine wl_nil (nrm_then ?_); refine cw_ret (body_ret1 rfl rfl ?_)
              exact ⟨false, rfl, by simp only [Bool.false_eq_true, false_iff]; intro hh; obtain ⟨hh, hh2⟩ := hh; have hf := (nodeP_iff x).1 hh; (have f1 := hf.zr; omega), hE171, fun h => by cases h⟩
            ·skip
             refine wl_n ?_; refine wl_n ?_; refine wl_n ?_; refine wl_pf ?_; refine wl_m ?_; refine wl_n ?_; refine wl_n ?_; refine wl_n ?_; refine wl_n ?_; refine wl_pf ?_; refine wl_m ?_; refine wl_n ?_; refine wl_n ?_; refine wl_n ?_; refine wl_pf ?_; refine wl_m ?_; refine wl_n ?_; refine wl_n ?_; refine wl_n ?_; refine wl_pf ?_; refine wl_m ?_; refine wl_n ?_; refine wl_n ?_; refine wl_n ?_; refine wl_pf ?_; refine wl_m ?_; refine wl_n ?_; refine wl_n ?_; refine wl_n ?_; refine wl_pf ?_; refine wl_m ?_; refine wl_n ?_; refine wl_n ?_; refine wl_n ?_; refine wl_pf ?_; refine wl_a ?_; refine wl_nil (nrm_then ?_); refine cw_ret (body_ret1 rfl rfl ?_)
             exact ⟨false, rfl, by simp only [Bool.false_eq_true, false_iff]; intro hh; obtain ⟨hh, hh2⟩ := hh; have hf := (nodeP_iff x).1 hh; (have f1 := hf.two; have f2 := hf.rep4; have f3 := hf.grp; have f4 := hf.leaf; omega), hE171, fun h => by cases h⟩
        ·skip
         refine cw_seq ?_; refine cw_region ?_; refine wl_val rfl (ex_eql rfl rfl) ?_; refine wl_a ?_; refine wl_nil (nrm_then ?_); refine cw_if rfl (fun hc75 => ?_) (fun hc75 => ?_)
         ·skip
          refine cw_seq ?_; refine cw_seq ?_; refine cw_region ?_; refine wl_m ?_; refine wl_val rfl (ex_fieldAddr rfl Try.fld25_6) ?_; refine wl_val rfl (ex_load1 rfl Try.agg3 (cell_nth hB49 rfl)) ?_; refine wl_val rfl (ex_fieldAddr rfl Try.fld25_7) ?_; refine wl_val rfl (ex_load1 rfl Try.agg9 (cell_nth hB49 rfl)) ?_; have hszc := (hE46).size; have hlt3 := Lt.blk hB49; have hlt5 := Lt.blk hB50; refine wl_call1 (vs := [_, _, _]) Try.goes21 rfl (group_ok ⟨hB47, hO48, hne⟩ hl bl2) rfl ?_; rintro _ w175 ⟨gb, rfl, hgb, hw176, hgs⟩; have hE177 := hE46.step hw176 (fun y hy => .inl hy); have hB178 := hw176.blk hB49 (nmem2 hA5.symm hA6.symm); have hB179 := hw176.blk hB50 (nmem2 hA15.symm hA16.symm); refine wl_val rfl (ex_notb rfl) ?_; refine wl_nil (nrm_then ?_); refine cw_ifb rfl (fun hc83 => ?_) (fun hc83 => ?_)
          ·skip
           refine cw_seq ?_; refine cw_region ?_; refine wl_a ?_; refine wl_nil (nrm_then ?_); refine cw_ret (ret_then (ret_block (ret_then (body_ret1 rfl rfl ?_))))
           exact ⟨false, rfl, by simp only [Bool.false_eq_true, false_iff]; intro hh; obtain ⟨hh, hh2⟩ := hh; have hf := (nodeP_iff x).1 hh; (rw [hgb.2 (hh2 (by omega))] at hc83; cases hc83), hE177, fun h => by cases h⟩
          ·skip
           obtain ⟨a2, c2, ob2, hJ2, hob2⟩ := hgs (by simpa using hc83); have hgb2 := hgb.1 (by simpa using hc83); have hA3 := ap_ob hA6.symm hlt3 hob2; have hA5 := ap_ob hA16.symm hlt5 hob2; refine cw_skip (nrm_then ?_); refine cw_seq ?_; refine cw_region ?_; refine wl_val rfl (ex_fieldAddr rfl Try.fld25_6) ?_; refine wl_store1 rfl rfl (by first | rfl | assumption) Try.size3 hB179 rfl fun w180 hB181 hw182 => ?_; have hE183 := hE177.step hw182 hG18.mem1; have hB184 := hw182.blk hB178 hA17.nmem1; have hB185 := hw182.blk hJ2.blk hA15.nmem1; have hO186 := hJ2.own.evo hw182 hA5.symm.own1
           try simp only [List.setIfInBounds_toArray, List.set_cons_zero, List.set_cons_succ, Nat.reduceAdd, Nat.zero_add, Nat.add_zero] at hB181
           refine wl_val rfl (ex_fieldAddr rfl Try.fld25_7) ?_; refine wl_store1 rfl rfl (by first | rfl | assumption) Try.size9 hB181 rfl fun w187 hB188 hw189 => ?_; have hE190 := hE183.step hw189 hG18.mem1; have hB191 := hw189.blk hB184 hA17.nmem1; have hB192 := hw189.blk hB185 hA15.nmem1; have hO193 := hO186.evo hw189 hA5.symm.own1
           try simp only [List.setIfInBounds_toArray, List.set_cons_zero, List.set_cons_succ, Nat.reduceAdd, Nat.zero_add, Nat.add_zero] at hB188
           refine wl_nil (nrm_then ?_); refine cw_region ?_; refine wl_a ?_; refine wl_nil (nrm_block (nrm_then ?_)); refine cw_seq ?_; refine cw_region ?_; refine wl_val rfl (ex_fieldAddr rfl Try.fld25_8) ?_; refine wl_val rfl (ex_load1 rfl Try.agg23 (cell_nth hB191 rfl)) ?_; refine wl_val rfl (ex_len_slice rfl Try.underlying23 rfl) ?_; refine wl_m ?_; refine wl_val rfl (ex_eql rfl rfl) ?_; refine wl_m ?_; refine wl_split (t := 91) rfl (fun hs91 => ?_) (fun hs91 => ?_)
           ·skip
            refine wl_g ?_; refine wl_val rfl (ex_fieldAddr rfl Try.fld25_1) ?_; refine wl_g ?_; refine wl_val rfl (ex_load1 rfl Try.agg21 (cell_nth hB188 rfl)) ?_; refine wl_g ?_; refine wl_val rfl (ex_eql rfl rfl) ?_; refine wl_pt ?_; refine wl_m ?_; refine wl_split (t := 96) rfl (fun hs96 => ?_) (fun hs96 => ?_)
            ·skip
             refine wl_g ?_; refine wl_val rfl (ex_fieldAddr rfl Try.fld25_2) ?_; refine wl_g ?_; refine wl_val rfl (ex_load1 rfl Try.agg22 (cell_nth hB188 rfl)) ?_; refine wl_g ?_; refine wl_val rfl (ex_len_slice rfl Try.underlying22 rfl) ?_; refine wl_g ?_; refine wl_val rfl (ex_eql rfl rfl) ?_; refine wl_pt ?_; refine wl_m ?_; refine wl_split (t := 102) rfl (fun hs102 => ?_) (fun hs102 => ?_)
             ·skip
              refine wl_g ?_; refine wl_val rfl (ex_fieldAddr rfl Try.fld25_3) ?_; refine wl_g ?_; refine wl_val rfl (ex_load1 rfl Try.agg3 (cell_nth hB188 rfl)) ?_; refine wl_g ?_; refine wl_val rfl (ex_eql rfl rfl) ?_; refine wl_pt ?_; refine wl_m ?_; refine wl_split (t := 107) rfl (fun hs107 => ?_) (fun hs107 => ?_)
              ·skip
               refine wl_g ?_; refine wl_val rfl (ex_fieldAddr rfl Try.fld25_4) ?_; refine wl_g ?_; refine wl_val rfl (ex_load1 rfl Try.agg3 (cell_nth hB188 rfl)) ?_; refine wl_g ?_; refine wl_val rfl (ex_eql rfl rfl) ?_; refine wl_pt ?_; refine wl_m ?_; refine wl_split (t := 112) rfl (fun hs112 => ?_) (fun hs112 => ?_)
               ·skip
                refine wl_g ?_; refine wl_val rfl (ex_fieldAddr rfl Try.fld25_5) ?_; refine wl_g ?_; refine wl_val rfl (ex_load1 rfl Try.agg4 (cell_nth hB188 rfl)) ?_; refine wl_g ?_; refine wl_val rfl (ex_notb rfl) ?_; refine wl_pt ?_; refine wl_m ?_; refine wl_splitb (t := 117) rfl (fun hs117 => ?_) (fun hs117 => ?_)
                ·skip
                 refine wl_g ?_; refine wl_val rfl (ex_fieldAddr rfl Try.fld25_6) ?_; refine wl_g ?_; refine wl_val rfl (ex_load1 rfl Try.agg3 (cell_nth hB188 rfl)) ?_; refine wl_g ?_; refine wl_val rfl (ex_eql rfl rfl) ?_; refine wl_pt ?_; refine wl_m ?_; refine wl_split (t := 122) rfl (fun hs122 => ?_) (fun hs122 => ?_)
                 ·skip
                  refine wl_g ?_; refine wl_val rfl (ex_fieldAddr rfl Try.fld25_7) ?_; refine wl_g ?_; refine wl_val rfl (ex_load1 rfl Try.agg9 (cell_nth hB188 rfl)) ?_; refine wl_g ?_; refine wl_val rfl (ex_eqs rfl rfl) ?_; refine wl_pt ?_; refine wl_a ?_; refine wl_nil (nrm_then ?_); refine cw_ret (body_ret1 rfl rfl ?_); have hob3 : ob2 = ob ∨ ∃ g, ob2 = some g ∧ w.heap.size ≤ g := hob2.imp id (fun ⟨g, h1, h2⟩ => ⟨g, h1, Nat.le_trans hszc h2⟩)
                  have hlz : x.kind = 6 ∨ x.lazy = false := by first | (left; omega) | (right; simpa using hs117)
                  refine ⟨_, rfl, ?_, hE190, fun hb => ?_⟩
                  · simp only [decide_eq_true_eq]
                    constructor
                    · intro hnm
                      exact ⟨(nodeP_iff x).2 (by constructor <;> first | omega | (right; assumption) | (left; omega) | exact hlz | (intro hk; exact hcb.1 (by simpa using hc36)) | (intro hk; exfalso; omega)), by intro _; exact hgb2⟩
                    · intro hh; obtain ⟨hh, hh2⟩ := hh; have hf := (nodeP_iff x).1 hh; trivial
                  · rw [if_pos (by omega)]; exact ⟨a2, c2, ob2, ⟨hB192, hO193, hJ2.ne⟩, hob3⟩
                 ·skip
                  refine wl_n ?_; refine wl_n ?_; refine wl_n ?_; refine wl_pf ?_; refine wl_a ?_; refine wl_nil (nrm_then ?_); refine cw_ret (body_ret1 rfl rfl ?_)
                  exact ⟨false, rfl, by simp only [Bool.false_eq_true, false_iff]; intro hh; obtain ⟨hh, hh2⟩ := hh; have hf := (nodeP_iff x).1 hh; (have f1 := hf.zc; omega), hE190, fun h => by cases h⟩
                ·skip
                 refine wl_n ?_; refine wl_n ?_; refine wl_n ?_; refine wl_pf ?_; refine wl_m ?_; refine wl_n ?_; refine wl_n ?_; refine wl_n ?_; refine wl_pf ?_; refine wl_a ?_; refine wl_nil (nrm_then ?_); refine cw_ret (body_ret1 rfl rfl ?_)
                 exact ⟨false, rfl, by simp only [Bool.false_eq_true, false_iff]; intro hh; obtain ⟨hh, hh2⟩ := hh; have hf := (nodeP_iff x).1 hh; (first | (rcases hf.zl with h | h; omega; rw [h] at hs117; cases hs117; done) | cases hs117), hE190, fun h => by cases h⟩
               ·skip
                refine wl_n ?_; refine wl_n ?_; refine wl_n ?_; refine wl_pf ?_; refine wl_m ?_; refine wl_n ?_; refine wl_n ?_; refine wl_n ?_; refine wl_pf ?_; refine wl_m ?_; refine wl_n ?_; refine wl_n ?_; refine wl_n ?_; refine wl_pf ?_; refine wl_a ?_; refine wl_nil (nrm_then ?_); refine cw_ret (body_ret1 rfl rfl ?_)
                exact ⟨false, rfl, by simp only [Bool.false_eq_true, false_iff]; intro hh; obtain ⟨hh, hh2⟩ := hh; have hf := (nodeP_iff x).1 hh; (have f1 := hf.zm2; omega), hE190, fun h => by cases h⟩
              ·skip
               refine wl_n ?_; refine wl_n ?_; refine wl_n ?_; refine wl_pf ?_; refine wl_m ?_; refine wl_n ?_; refine wl_n ?_; refine wl_n ?_; refine wl_pf ?_; refine wl_m ?_; refine wl_n ?_; refine wl_n ?_; refine wl_n ?_; refine wl_pf ?_; refine wl_m ?_; refine wl_n ?_; refine wl_n ?_; refine wl_n ?_; refine wl_pf ?_; refine wl_a ?_; refine wl_nil (nrm_then ?_); refine cw_ret (body_ret1 rfl rfl ?_)
               exact ⟨false, rfl, by simp only [Bool.false_eq_true, false_iff]; intro hh; obtain ⟨hh, hh2⟩ := hh; have hf := (nodeP_iff x).1 hh; (have f1 := hf.zm1; omega), hE190, fun h => by cases h⟩
             ·skip
              refine wl_n ?_; refine wl_n ?_; refine wl_n ?_; refine wl_pf ?_; refine wl_m ?_; refine wl_n ?_; refine wl_n ?_; refine wl_n ?_; refine wl_pf ?_; refine wl_m ?_; refine wl_n ?_; refine wl_n ?_; refine wl_n ?_; refine wl_pf ?_; refine wl_m ?_; refine wl_n ?_; refine wl_n ?_; refine wl_n ?_; refine wl_pf ?_; refine wl_m ?_; refine wl_n ?_; refine wl_n ?_; refine wl_n ?_; refine wl_pf ?_; refine wl_a ?_; refine wl_nil (nrm_then ?_); refine cw_ret (body_ret1 rfl rfl ?_)
              exact ⟨false, rfl, by simp only [Bool.false_eq_true, false_iff]; intro hh; obtain ⟨hh, hh2⟩ := hh; have hf := (nodeP_iff x).1 hh; (have f1 := hf.zg; omega), hE190, fun h => by cases h⟩
            ·skip
             refine wl_n ?_; refine wl_n ?_; refine wl_n ?_; refine wl_n ?_; refine wl_pf ?_; refine wl_m ?_; refine wl_n ?_; refine wl_n ?_; refine wl_n ?_; refine wl_pf ?_; refine wl_m ?_; refine wl_n ?_; refine wl_n ?_; refine wl_n ?_; refine wl_pf ?_; refine wl_m ?_; refine wl_n ?_; refine wl_n ?_; refine wl_n ?_; refine wl_pf ?_; refine wl_m ?_; refine wl_n ?_; refine wl_n ?_; refine wl_n ?_; refine wl_pf ?_; refine wl_m ?_; refine wl_n ?_; refine wl_n ?_; refine wl_n ?_; refine wl_pf ?_; refine wl_a ?_; refine wl_nil (nrm_then ?_); refine cw_ret (body_ret1 rfl rfl ?_)
             exact ⟨false, rfl, by simp only [Bool.false_eq_true, false_iff]; intro hh; obtain ⟨hh, hh2⟩ := hh; have hf := (nodeP_iff x).1 hh; (have f1 := hf.zr; omega), hE190, fun h => by cases h⟩
           ·skip
            refine wl_n ?_; refine wl_n ?_; refine wl_n ?_; refine wl_pf ?_; refine wl_m ?_; refine wl_n ?_; refine wl_n ?_; refine wl_n ?_; refine wl_n ?_; refine wl_pf ?_; refine wl_m ?_; refine wl_n ?_; refine wl_n ?_; refine wl_n ?_; refine wl_pf ?_; refine wl_m ?_; refine wl_n ?_; refine wl_n ?_; refine wl_n ?_; refine wl_pf ?_; refine wl_m ?_; refine wl_n ?_; refine wl_n ?_; refine wl_n ?_; refine wl_pf ?_; refine wl_m ?_; refine wl_n ?_; refine wl_n ?_; refine wl_n ?_; refine wl_pf ?_; refine wl_m ?_; refine wl_n ?_; refine wl_n ?_; refine wl_n ?_; refine wl_pf ?_; refine wl_a ?_; refine wl_nil (nrm_then ?_); refine cw_ret (body_ret1 rfl rfl ?_)
            exact ⟨false, rfl, by simp only [Bool.false_eq_true, false_iff]; intro hh; obtain ⟨hh, hh2⟩ := hh; have hf := (nodeP_iff x).1 hh; (have f1 := hf.two; have f2 := hf.rep4; have f3 := hf.grp; have f4 := hf.leaf; omega), hE190, fun h => by cases h⟩
         ·skip
          refine cw_seq ?_; refine cw_region ?_; refine wl_a ?_; refine wl_nil (nrm_then ?_); refine cw_ret (ret_block (ret_then (body_ret1 rfl rfl ?_)))
          exact ⟨false, rfl, by simp only [Bool.false_eq_true, false_iff]; intro hh; obtain ⟨hh, hh2⟩ := hh; have hf := (nodeP_iff x).1 hh; (have f1 := hf.kind1; have f2 := hf.kind2; omega), hE46, fun h => by cases h⟩
end Go.Proofs.Ytljadkcojnlioaa
namespace Go.Proofs.Ytljadkcojnlioaa
open Go.W Go.RowKit
set_option linter.unusedVariables false
set_option linter.unusedSimpArgs false
instance (s : ByteArray) (c : In) (i : Nat) : Decidable (GoesB s c i) := by unfold GoesB; infer_instance
end Go.Proofs.Ytljadkcojnlioaa
namespace Go.Proofs.Ytljadkcojnlioaa
open Go.Proofs
open Go.W
attribute [local irreducible] Decidable.decide
set_option linter.unusedSimpArgs false
set_option linter.unusedVariables false
theorem Try.goes12 : Goes Try.prog 12 := ⟨_, Try.func12, by kernel_rfl, by kernel_rfl⟩
theorem Try.goes51 : Goes Try.prog 51 := ⟨_, Try.func51, by kernel_rfl, by kernel_rfl⟩
theorem bstr_size (l : List Nat) : (bstr l).size = l.length := by simp [bstr, ByteArray.size]
theorem width_ok {w : World} (r : Int) : Calls Try.prog 51 #[.int .i32 r] w (Ret fun v w' => v = .int .i64 (if r < 128 then 1 else if r < 2048 then 2 else if r < 65536 then 3 else 4) ∧ Evo [] w w') := by
  refine calls_of_cw (N := 12) Try.func51 rfl rfl rfl ?_; refine cw_seq ?_; refine cw_region ?_; refine wl_a ?_; refine wl_nil (nrm_then ?_); refine cw_seq ?_; refine cw_block ?_; refine cw_seq ?_; refine cw_region ?_; refine wl_m ?_; refine wl_val rfl (ex_lss rfl rfl) ?_; refine wl_a ?_; refine wl_nil (nrm_then ?_); refine cw_if rfl (fun hc3 => ?_) (fun hc3 => ?_)
  ·skip
   refine cw_seq ?_; refine cw_region ?_; refine wl_a ?_; refine wl_nil (nrm_then ?_); refine cw_ret (ret_block (ret_then (body_ret1 rfl rfl ?_)))
   exact ⟨by congr 1; (repeat' split) <;> omega, (Evo.refl [] w)⟩
  ·skip
   refine cw_seq ?_; refine cw_region ?_; refine wl_m ?_; refine wl_val rfl (ex_lss rfl rfl) ?_; refine wl_a ?_; refine wl_nil (nrm_then ?_); refine cw_if rfl (fun hc6 => ?_) (fun hc6 => ?_)
   ·skip
    refine cw_seq ?_; refine cw_region ?_; refine wl_a ?_; refine wl_nil (nrm_then ?_); refine cw_ret (ret_block (ret_then (body_ret1 rfl rfl ?_)))
    exact ⟨by congr 1; (repeat' split) <;> omega, (Evo.refl [] w)⟩
   ·skip
    refine cw_seq ?_; refine cw_region ?_; refine wl_m ?_; refine wl_val rfl (ex_lss rfl rfl) ?_; refine wl_a ?_; refine wl_nil (nrm_then ?_); refine cw_if rfl (fun hc9 => ?_) (fun hc9 => ?_)
    ·skip
     refine cw_seq ?_; refine cw_region ?_; refine wl_a ?_; refine wl_nil (nrm_then ?_); refine cw_ret (ret_block (ret_then (body_ret1 rfl rfl ?_)))
     exact ⟨by congr 1; (repeat' split) <;> omega, (Evo.refl [] w)⟩
    ·skip
     refine cw_skip (nrm_block (nrm_then ?_)); refine cw_seq ?_; refine cw_region ?_; refine wl_a ?_; refine wl_nil (nrm_then ?_); refine cw_ret (body_ret1 rfl rfl ?_)
     exact ⟨by congr 1; (repeat' split) <;> omega, (Evo.refl [] w)⟩
theorem replaced_ok {w : World} (s : ByteArray) (a : Nat) (ha : a ≤ s.size) (hl : s.size ≤ 140737488355328) : Calls Try.prog 12 #[.string s, .int .i64 (a : Nat)] w (Ret fun v w' => v = .bool (decide (a + 3 ≤ s.size ∧ s.extract a (a + 3) = bstr [239, 191, 189])) ∧ Evo [] w w') := by
  refine calls_of_cw (N := 18) Try.func12 rfl rfl rfl ?_; refine cw_seq ?_; refine cw_region ?_; refine wl_a ?_; refine wl_nil (nrm_then ?_); refine cw_seq ?_; refine cw_region ?_; refine wl_m ?_; refine wl_val rfl (ex_add_i64 rfl rfl (by omega) (by omega)) ?_; refine wl_m ?_; refine wl_val rfl (ex_len_str rfl Try.underlying9 rfl) ?_; refine wl_val rfl (ex_leq rfl rfl) ?_; refine wl_m ?_; refine wl_split (t := 10) rfl (fun hs10 => ?_) (fun hs10 => ?_)
  ·skip
   refine wl_g ?_; refine wl_m ?_; refine wl_g ?_; refine wl_m ?_; refine wl_g ?_; refine wl_m ?_; refine wl_g ?_; refine wl_val rfl (ex_add_i64 rfl rfl (by omega) (by omega)) ?_; refine wl_g ?_; refine wl_val rfl (ex_ssub (l := a) (h := a + 3) rfl rfl rfl Try.underlying9 rfl (by omega) (by omega) (by omega)) ?_; refine wl_g ?_; refine wl_val rfl (ex_eqs rfl rfl) ?_; refine wl_pt ?_; refine wl_a ?_; refine wl_nil (nrm_then ?_); refine cw_ret (body_ret1 rfl rfl ?_); refine ⟨congrArg Value.bool (decide_eq_decide.2 ?_), (Evo.refl [] w)⟩; constructor
   · exact fun h => ⟨by omega, h⟩
   · exact fun h => h.2
  ·skip
   refine wl_n ?_; refine wl_n ?_; refine wl_n ?_; refine wl_n ?_; refine wl_n ?_; refine wl_n ?_; refine wl_pf ?_; refine wl_a ?_; refine wl_nil (nrm_then ?_); refine cw_ret (body_ret1 rfl rfl ?_); exact ⟨congrArg Value.bool (decide_eq_false (by omega)).symm, (Evo.refl [] w)⟩
theorem nextR_bad {s : ByteArray} {a : Nat} (ha : a < s.size) (h : (Utf8.decode s a).1 = 65533) (hr : ¬ (a + 3 ≤ s.size ∧ s.extract a (a + 3) = bstr [239, 191, 189])) : nextR s a = (-1, 0) := by
  have h1 := decode_fffd s a h ha
  have h2 := decode_repl s a h ha
  unfold nextR
  rw [if_neg]
  rintro ⟨_, h3⟩
  rcases h1 with h1 | h1
  · exact h3 ⟨h, h1⟩
  · exact hr (h2.1 h1)
theorem nextR_good {s : ByteArray} {a : Nat} (ha : a < s.size) (h : ¬ (Utf8.decode s a).1 = 65533 ∨ (a + 3 ≤ s.size ∧ s.extract a (a + 3) = bstr [239, 191, 189])) :
    (nextR s a).1 = ((Utf8.decode s a).1 : Nat) ∧ (((nextR s a).2 : Nat) : Int) = if ((Utf8.decode s a).1 : Int) < 128 then 1 else if ((Utf8.decode s a).1 : Int) < 2048 then 2 else if ((Utf8.decode s a).1 : Int) < 65536 then 3 else 4 := by
  have hn : ¬ ((Utf8.decode s a).1 = 65533 ∧ (Utf8.decode s a).2 = 1) := fun ⟨h1, h2⟩ => by
    rcases h with h | h
    · exact h h1
    · rw [(decode_repl s a h1 ha).2 h] at h2; cases h2
  have hw := decode_width s a ha hn
  unfold nextR
  rw [if_pos ⟨ha, hn⟩]
  refine ⟨rfl, ?_⟩
  simp only
  rw [hw]
  repeat' split
  all_goals first | rfl | omega
theorem next_ok {w : World} (s : ByteArray) (a : Nat) (ha : a ≤ s.size) (hl : s.size ≤ 140737488355328) : Calls Try.prog 40 #[.string s, .int .i64 (a : Nat)] w (Ret fun v w' => v = .tuple #[.int .i32 (nextR s a).1, .int .i64 ((nextR s a).2 : Nat)] ∧ Evo [] w w') := by
  refine calls_of_cw (N := 44) Try.func40 rfl rfl rfl ?_; refine cw_seq ?_; refine cw_region ?_; refine wl_a ?_; refine wl_a ?_; refine wl_nil (nrm_then ?_); refine cw_seq ?_; refine cw_seq ?_; refine cw_region ?_; refine wl_m ?_; refine wl_val rfl (ex_lss rfl rfl) ?_; refine wl_m ?_; refine wl_split (t := 10) rfl (fun hs10 => ?_) (fun hs10 => ?_)
  ·skip
   refine wl_n ?_; refine wl_n ?_; refine wl_n ?_; refine wl_n ?_; refine wl_pt ?_; refine wl_nil (nrm_then ?_); refine cw_true rfl ?_; refine cw_seq ?_; refine cw_region ?_; refine wl_a ?_; refine wl_a ?_; refine wl_nil (nrm_then ?_); refine cw_ret (ret_then (body_ret2 rfl rfl rfl ?_))
   exfalso; omega
  ·skip
   refine wl_g ?_; refine wl_m ?_; refine wl_g ?_; refine wl_m ?_; refine wl_g ?_; refine wl_val rfl (ex_len_str rfl Try.underlying9 rfl) ?_; refine wl_g ?_; refine wl_val rfl (ex_geq rfl rfl) ?_; refine wl_pf ?_; refine wl_nil (nrm_then ?_); refine cw_if rfl (fun hc15 => ?_) (fun hc15 => ?_)
   ·skip
    refine cw_seq ?_; refine cw_region ?_; refine wl_a ?_; refine wl_a ?_; refine wl_nil (nrm_then ?_); refine cw_ret (ret_then (body_ret2 rfl rfl rfl ?_))
    exact ⟨by rw [next_out (by omega)]; rfl, (Evo.refl [] w)⟩
   ·skip
    refine cw_skip (nrm_then ?_); refine cw_seq ?_; refine cw_seq ?_; refine cw_region ?_
    have hlt : a < s.size := by omega
    refine wl_m ?_; refine wl_m ?_; refine wl_m ?_; refine wl_val rfl (ex_len_str rfl Try.underlying9 rfl) ?_; refine wl_m ?_; refine wl_val rfl (ex_add_i64 rfl rfl (by omega) (by omega)) ?_; refine wl_val rfl (ex_min rfl rfl) ?_
    refine wl_val rfl (ex_ssub (l := a) (h := min s.size (a + 4)) rfl rfl rfl Try.underlying9 rfl (by split <;> omega) (by omega) (by omega)) ?_
    refine wl_rangeS rfl rfl Try.underlying9 fun b1 w2 hB3 hs4 hw5 => ?_; have hG6 := Ge.new (Evo.refl [] w) hs4; have hE7 := (Evo.refl [] w).then hw5; refine wl_nil (nrm_then ?_); refine cw_block ?_; refine cw_loop (α := Nat) (0) (fun k => []) [(0, _), (1, _), (24, _)] (fun k wr => Evo [] w2 wr ∧ (True)) (fun k => 0) trivial ⟨rfl, rfl, rfl, trivial⟩ ⟨Evo.refl _ _, trivial⟩ ?_; rintro k wr8 ⟨hV9, _⟩; show CW _ _ _ _ [(0, _), (1, _), (24, _)] _; have hE10 := hE7.then hV9; have hB11 := hV9.blk0 hB3; refine cw_seq ?_; refine cw_region ?_
    refine wl_nextS rfl rfl hB11 (by simp; omega) fun w12 hB13 hw14 => ?_
    have hE15 := hE10.step hw14 hG6.mem1; have hcut := decode_cut s a hlt; refine wl_val rfl (ex_extract rfl rfl) ?_; refine wl_nil (nrm_then ?_); refine cw_seq ?_; refine cw_true rfl ?_; refine cw_skip (nrm_then ?_); refine cw_block ?_; refine cw_seq ?_; refine cw_region ?_; refine wl_val rfl (ex_extract rfl rfl) ?_; refine wl_val rfl (ex_extract rfl rfl) ?_; refine wl_a ?_; refine wl_a ?_; refine wl_nil (nrm_then ?_); refine cw_seq ?_; refine cw_seq ?_; refine cw_region ?_; refine wl_m ?_; refine wl_val rfl (ex_gtr rfl rfl) ?_; refine wl_m ?_; refine wl_split (t := 31) rfl (fun hs31 => ?_) (fun hs31 => ?_)
    ·skip
     refine wl_n ?_; refine wl_n ?_; refine wl_n ?_; refine wl_u ?_; refine wl_u ?_; refine wl_u ?_; refine wl_u ?_; refine wl_n ?_; refine wl_pt ?_; refine wl_nil (nrm_then ?_); refine cw_true rfl ?_; refine cw_exit (ex_then (ex_past rfl (ex_then (ex_here (nrm_then ?_))))); refine cw_seq ?_; refine cw_region ?_; refine wl_a ?_; refine wl_a ?_; refine wl_nil (nrm_then ?_); refine cw_ret (body_ret2 rfl rfl rfl ?_)
     exfalso; omega
    ·skip
     refine wl_g ?_; refine wl_m ?_; refine wl_g ?_; refine wl_val rfl (ex_eql rfl rfl) ?_; refine wl_g ?_; refine wl_m ?_; refine wl_split (t := 34) rfl (fun hs34 => ?_) (fun hs34 => ?_)
     ·skip
      refine wl_g ?_; refine wl_m ?_; refine wl_g ?_; refine wl_m ?_; refine wl_g ?_; refine wl_call1 (vs := [_, _]) Try.goes12 rfl (replaced_ok s a (by omega) hl) rfl ?_; rintro _ w17 ⟨rfl, hw18⟩; have hE19 := hE15.then hw18; have hB20 := hw18.blk0 hB13; refine wl_g ?_; refine wl_val rfl (ex_not rfl) ?_; refine wl_g ?_; refine wl_pt ?_; refine wl_pf ?_; refine wl_nil (nrm_then ?_); refine cw_if rfl (fun hc40 => ?_) (fun hc40 => ?_)
      ·skip
       refine cw_exit (ex_then (ex_past rfl (ex_then (ex_here (nrm_then ?_))))); refine cw_seq ?_; refine cw_region ?_; refine wl_a ?_; refine wl_a ?_; refine wl_nil (nrm_then ?_); refine cw_ret (body_ret2 rfl rfl rfl ?_); rw [hcut] at hs34
       exact ⟨by rw [nextR_bad hlt (by omega) hc40]; rfl, hE19⟩
      ·skip
       refine cw_skip (nrm_then ?_); refine cw_seq ?_; refine cw_region ?_; refine wl_m ?_; refine wl_m ?_; refine wl_call1 (vs := [_]) Try.goes51 rfl (width_ok _) rfl ?_; rintro _ w21 ⟨rfl, hw22⟩; have hE23 := hE19.then hw22; have hB24 := hw22.blk0 hB20; refine wl_a ?_; refine wl_a ?_; refine wl_nil (nrm_then ?_); refine cw_ret (ret_block (ret_then (ret_block (ret_then (body_ret2 rfl rfl rfl ?_))))); rw [hcut] at hs34 ⊢; have hg := nextR_good hlt (.inr (Decidable.not_not.1 hc40))
       exact ⟨by rw [hg.1, hg.2]; rfl, hE23⟩
     ·skip
      refine wl_n ?_; refine wl_n ?_; refine wl_n ?_; refine wl_n ?_; refine wl_g ?_; refine wl_pf ?_; refine wl_pf ?_; refine wl_nil (nrm_then ?_); refine cw_false rfl ?_; refine cw_skip (nrm_then ?_); refine cw_seq ?_; refine cw_region ?_; refine wl_m ?_; refine wl_m ?_; refine wl_call1 (vs := [_]) Try.goes51 rfl (width_ok _) rfl ?_; rintro _ w25 ⟨rfl, hw26⟩; have hE27 := hE15.then hw26; have hB28 := hw26.blk0 hB13; refine wl_a ?_; refine wl_a ?_; refine wl_nil (nrm_then ?_); refine cw_ret (ret_block (ret_then (ret_block (ret_then (body_ret2 rfl rfl rfl ?_))))); rw [hcut] at hs34 ⊢; have hg := nextR_good hlt (.inl (by omega))
      exact ⟨by rw [hg.1, hg.2]; rfl, hE27⟩
end Go.Proofs.Ytljadkcojnlioaa
namespace Go.Proofs.Ytljadkcojnlioaa
open Go.Proofs
open Go.W Go.RowKit
attribute [local irreducible] Decidable.decide
set_option linter.unusedSimpArgs false
set_option linter.unusedVariables false
theorem Try.goes40 : Goes Try.prog 40 := ⟨_, Try.func40, by kernel_rfl, by kernel_rfl⟩
theorem Try.goes49 : Goes Try.prog 49 := ⟨_, Try.func49, by kernel_rfl, by kernel_rfl⟩
theorem Try.goes50 : Goes Try.prog 50 := ⟨_, Try.func50, by kernel_rfl, by kernel_rfl⟩
def Bd (s : ByteArray) (i : Nat) : Prop := ∃ N k, Utf s N ∧ k ≤ N ∧ offs s k = i
theorem Bd.le {s : ByteArray} {i : Nat} (h : Bd s i) : i ≤ s.size := by obtain ⟨N, k, _, _, rfl⟩ := h; exact offs_le s k
theorem Bd.zero {s : ByteArray} {N : Nat} (h : Utf s N) : Bd s 0 := ⟨N, 0, h, Nat.zero_le _, rfl⟩
theorem Bd.next {s : ByteArray} {i : Nat} (h : Bd s i) (hi : i < s.size) : 0 < (nextR s i).2 ∧ i + (nextR s i).2 ≤ s.size ∧ Bd s (i + (nextR s i).2) ∧ 0 ≤ (nextR s i).1 ∧ (nextR s i).1 ≤ 1114111 := by
  obtain ⟨N, k, hU, hk, rfl⟩ := h
  have hkN : k < N := by
    rcases Nat.lt_or_ge k N with h | h
    · exact h
    · obtain rfl : k = N := by omega
      rw [hU.1] at hi; omega
  have h0 := hU.2 k hkN
  have h1 : Bd s (offs s k + (nextR s (offs s k)).2) := ⟨N, k + 1, hU, hkN, rfl⟩
  rcases next_cases s (offs s k) with h2 | h2
  · rw [h2] at h0; cases h0
  · exact ⟨h0, h1.le, h1, h2.1, h2.2.1⟩
theorem Bd.asc {s : ByteArray} {i : Nat} (h : Bd s i) (hi : i < s.size) (hb : sb s i < 128) : Bd s (i + 1) ∧ (nextR s i).1 = (sb s i : Int) ∧ (nextR s i).2 = 1 := by
  obtain ⟨h0, h1, h2, h3, h4⟩ := h.next hi
  obtain ⟨h5, h6, h7, h8⟩ := next_byte h0
  by_cases hc : (nextR s i).1 < 128
  · obtain ⟨h9, h10⟩ := h6 hc
    rw [h9] at h2
    exact ⟨h2, h10.symm, h9⟩
  · have := h7 (by omega); omega
theorem isB.asc {s : ByteArray} {i b : Nat} (h : isB s i b) (hb : b < 128) (hd : Bd s i) : Bd s (i + 1) := (hd.asc h.1 (by rw [h.2]; exact hb)).1
theorem rune_ok {w : World} {b : Nat} {s : ByteArray} {st : PS} {a : Option Addr} {c : Nat} {ob : Option Nat} (hR : RdAt w b s st a c ob) (hs : s.size ≤ 1000000) (hb : Bd s st.pos) :
    Calls Try.prog 26 #[.pointer (some ⟨b, 0, none⟩)] w (Ret fun v w' => v = .int .i32 (nextR s st.pos).1 ∧ Evo [b] w w' ∧ RdAt w' b s (adv st (nextR s st.pos).2) a c ob) := by
  have hap := hR.ap; have hle := hb.le
  have hnx : st.pos + (nextR s st.pos).2 ≤ s.size + 4 := by rcases next_cases s st.pos with h | h; rw [h]; (show st.pos + 0 ≤ s.size + 4; omega); omega
  refine calls_of_cw (N := 26) Try.func26 rfl rfl rfl ?_; refine cw_seq ?_; refine cw_region ?_; refine wl_a ?_; refine wl_nil (nrm_then ?_); refine cw_seq ?_; refine cw_any (fun w0 w' => Evo [] w0 w') (by kernel_rfl) (fun w1 hw2 => ?_); have hE3 := (Evo.refl [b] w).then hw2; have hB4 := hw2.blk0 hR.blk; have hO5 := hR.own.evo0 hw2; refine ae_take 0 rfl (by kernel_rfl) (by kernel_rfl) (by kernel_rfl) rfl (fun _ hS => ex_move rfl) (Evo.refl [] w1) ?_; refine ae_take 1 rfl (by kernel_rfl) (by kernel_rfl) (by kernel_rfl) rfl (fun _ hS => ex_nilCheck rfl) (Evo.refl [] w1) ?_; refine ae_take 2 rfl (by kernel_rfl) (by kernel_rfl) (by kernel_rfl) rfl (fun _ hS => ex_fieldAddr rfl Try.fld41_0) (Evo.refl [] w1) ?_; refine ae_take 3 rfl (by kernel_rfl) (by kernel_rfl) (by kernel_rfl) rfl (fun _ hS => ex_load1 rfl Try.agg9 (cell_nth (hS.blk0 hB4) rfl)) (Evo.refl [] w1) ?_; refine ae_take 4 rfl (by kernel_rfl) (by kernel_rfl) (by kernel_rfl) rfl (fun _ hS => ex_move rfl) (Evo.refl [] w1) ?_; refine ae_take 5 rfl (by kernel_rfl) (by kernel_rfl) (by kernel_rfl) rfl (fun _ hS => ex_nilCheck rfl) (Evo.refl [] w1) ?_; refine ae_take 6 rfl (by kernel_rfl) (by kernel_rfl) (by kernel_rfl) rfl (fun _ hS => ex_fieldAddr rfl Try.fld41_1) (Evo.refl [] w1) ?_; refine ae_take 7 rfl (by kernel_rfl) (by kernel_rfl) (by kernel_rfl) rfl (fun _ hS => ex_load1 rfl Try.agg3 (cell_nth (hS.blk0 hB4) rfl)) (Evo.refl [] w1) ?_; refine ae_loud [8] (by kernel_rfl) rfl ⟨?_, trivial⟩; refine a_step rfl ?_; refine wl_call1 (vs := [_, _]) Try.goes40 rfl (next_ok s st.pos hle (by omega)) rfl ?_; rintro _ w6 ⟨rfl, hw7⟩; have hE8 := hE3.then hw7; have hE9 := (Evo.refl [] w1).then hw7; have hB10 := hw7.blk0 hB4; have hO11 := hO5.evo0 hw7; refine wl_nil (ae_next (.inl hE9) ?_)
  refine ae_take 9 rfl (by kernel_rfl) (by kernel_rfl) (by kernel_rfl) rfl (fun _ hS => ex_move rfl) hE9 ?_; refine ae_take 10 rfl (by kernel_rfl) (by kernel_rfl) (by kernel_rfl) rfl (fun _ hS => ex_extract rfl rfl) hE9 ?_; refine ae_take 11 rfl (by kernel_rfl) (by kernel_rfl) (by kernel_rfl) rfl (fun _ hS => ex_extract rfl rfl) hE9 ?_; refine ae_take 12 rfl (by kernel_rfl) (by kernel_rfl) (by kernel_rfl) rfl (fun _ hS => ex_assign rfl) hE9 ?_; refine ae_take 13 rfl (by kernel_rfl) (by kernel_rfl) (by kernel_rfl) rfl (fun _ hS => ex_assign rfl) hE9 ?_; refine ae_done (by kernel_rfl) (nrm_then ?_); refine cw_seq ?_; refine cw_region ?_; refine wl_m ?_; refine wl_val rfl (ex_nilCheck rfl) ?_; refine wl_val rfl (ex_fieldAddr rfl Try.fld41_1) ?_; refine wl_val rfl (ex_load1 rfl Try.agg3 (cell_nth hB10 rfl)) ?_; refine wl_m ?_; refine wl_val rfl (ex_add_i64 rfl rfl (by omega) (by omega)) ?_; refine wl_val rfl (ex_nilCheck rfl) ?_; refine wl_val rfl (ex_fieldAddr rfl Try.fld41_1) ?_; refine wl_store1 rfl rfl (by first | rfl | assumption) Try.size3 hB10 rfl fun w12 hB13 hw14 => ?_; have hE15 := hE8.step hw14 (fun y hy => .inl hy); have hO16 := hO11.evo hw14 hap.symm.own1
  try simp only [List.setIfInBounds_toArray, List.set_cons_zero, List.set_cons_succ, Nat.reduceAdd, Nat.zero_add, Nat.add_zero] at hB13
  refine wl_nil (nrm_then ?_); refine cw_seq ?_; refine cw_region ?_; refine wl_m ?_; refine wl_a ?_; refine wl_nil (nrm_then ?_); refine cw_ret (body_ret1 rfl rfl ?_); exact ⟨rfl, hE15, hB13, hO16, hR.ne⟩
theorem hexD_lo {c d : Nat} (h : hexD c = some d) : c < 128 ∧ d < 16 := by
  unfold hexD at h
  split at h
  · cases h; omega
  · split at h
    · cases h; omega
    · split at h
      · cases h; omega
      · cases h
theorem pHexD_b {s : ByteArray} {i d j : Nat} (h : pHexD s i = .ok (d, j)) (hb : Bd s i) : Bd s j ∧ j = i + 1 ∧ d < 16 := by
  unfold pHexD at h
  split at h
  · rename_i hi
    split at h
    · rename_i d' hd
      cases h
      obtain ⟨h1, h2⟩ := hexD_lo hd
      exact ⟨(hb.asc hi h1).1, rfl, h2⟩
    · cases h
  · cases h
theorem pHexL_b {s : ByteArray} : ∀ {f n i m j : Nat}, pHexL s f n i = .ok (m, j) → Bd s i → n ≤ 1114111 → Bd s j ∧ i < j ∧ m ≤ 1114111
  | 0, n, i, m, j, h, _, _ => by cases h
  | f + 1, n, i, m, j, h, hb, hn => by
    rw [pHexL] at h
    split at h
    · rename_i hi
      cases h
      exact ⟨hi.asc (by decide) hb, by omega, hn⟩
    · split at h
      · cases h
      · rename_i d k hd
        obtain ⟨h1, h2, h3⟩ := pHexD_b hd hb
        split at h
        · cases h
        · obtain ⟨h4, h5, h6⟩ := pHexL_b h h1 (by omega)
          exact ⟨h4, by omega, h6⟩
theorem pHex_b {s : ByteArray} {i m j : Nat} (h : pHex s i = .ok (m, j)) (hb : Bd s i) : Bd s j ∧ i < j ∧ m ≤ 1114111 := by
  unfold pHex at h
  split at h
  · rename_i hi
    split at h
    · cases h
    · rename_i d k hd
      obtain ⟨h1, h2, h3⟩ := pHexD_b hd (hi.asc (by decide) hb)
      obtain ⟨h4, h5, h6⟩ := pHexL_b h h1 (by omega)
      exact ⟨h4, by omega, h6⟩
  · split at h
    · cases h
    · rename_i d k hd
      obtain ⟨h1, h2, h3⟩ := pHexD_b hd hb
      split at h
      · cases h
      · rename_i e q he
        cases h
        obtain ⟨h4, h5, h6⟩ := pHexD_b he h1
        exact ⟨h4, by omega, by omega⟩
def escI (c : Nat) : Int := if c = 97 then 0 else if c = 102 then 1 else if c = 116 then 2 else if c = 110 then 3 else if c = 114 then 4 else if c = 118 then 5 else -1
def escT : ByteArray := ByteArray.mk #[7, 12, 9, 10, 13, 11]
theorem escI_yes {c : Nat} (h : 0 ≤ escI c) : ∃ k, escI c = ((k : Nat) : Int) ∧ k < escT.size ∧ escC c = some (sb escT k) ∧ sb escT k < 128 := by
  unfold escI at *
  unfold escC
  by_cases h1 : c = 97
  · subst h1; exact ⟨0, rfl, by decide, rfl, by decide⟩
  · by_cases h2 : c = 102
    · subst h2; exact ⟨1, rfl, by decide, rfl, by decide⟩
    · by_cases h3 : c = 116
      · subst h3; exact ⟨2, rfl, by decide, rfl, by decide⟩
      · by_cases h4 : c = 110
        · subst h4; exact ⟨3, rfl, by decide, rfl, by decide⟩
        · by_cases h5 : c = 114
          · subst h5; exact ⟨4, rfl, by decide, rfl, by decide⟩
          · by_cases h6 : c = 118
            · subst h6; exact ⟨5, rfl, by decide, rfl, by decide⟩
            · rw [if_neg h1, if_neg h2, if_neg h3, if_neg h4, if_neg h5, if_neg h6] at h; omega
theorem escI_no {c : Nat} (h : ¬ 0 ≤ escI c) : escC c = none := by
  unfold escI at h
  unfold escC
  by_cases h1 : c = 97
  · subst h1; exact (h (by decide)).elim
  · by_cases h2 : c = 102
    · subst h2; exact (h (by decide)).elim
    · by_cases h3 : c = 116
      · subst h3; exact (h (by decide)).elim
      · by_cases h4 : c = 110
        · subst h4; exact (h (by decide)).elim
        · by_cases h5 : c = 114
          · subst h5; exact (h (by decide)).elim
          · by_cases h6 : c = 118
            · subst h6; exact (h (by decide)).elim
            · rw [if_neg h1, if_neg h2, if_neg h3, if_neg h4, if_neg h5, if_neg h6]
theorem escIdx (c : Nat) (hc : c < 256) : Go.Lib.indexByte [97, 102, 116, 110, 114, 118] ((c : Int)).toNat.toUInt8 = escI c := by
  have h : ∀ c : Fin 256, Go.Lib.indexByte [97, 102, 116, 110, 114, 118] ((c.1 : Int)).toNat.toUInt8 = escI c.1 := by decide +kernel
  exact h ⟨c, hc⟩
theorem idxEsc_ok {w : World} (c : Nat) (hc : c < 256) : Calls Try.prog 49 #[.string (ByteArray.mk #[97, 102, 116, 110, 114, 118]), .int .u8 (c : Nat)] w (Ret fun v w' => v = iv (escI c) ∧ Evo [] w w') := by
  refine (Try.strings_IndexByte _ _ w).mono ?_
  rintro e w' ⟨rfl, rfl⟩
  exact ⟨_, rfl, congrArg iv (escIdx c hc), Evo.refl _ _⟩
theorem pEsc_end {s : ByteArray} {i : Nat} (h : s.size ≤ i + 1) : pEsc s i = .error 83 := by unfold pEsc; rw [if_pos h]
theorem pEsc_c {s : ByteArray} {i v : Nat} (h : ¬ s.size ≤ i + 1) (h2 : escC (sb s (i + 1)) = some v) : pEsc s i = .ok (v, i + 2) := by unfold pEsc; rw [if_neg h, h2]
theorem pEsc_x {s : ByteArray} {i : Nat} (h : ¬ s.size ≤ i + 1) (h2 : sb s (i + 1) = 120) : pEsc s i = pHex s (i + 2) := by
  unfold pEsc; rw [if_neg h, h2, show escC 120 = none from rfl]; rfl
theorem pEsc_bad {s : ByteArray} {i : Nat} (h : ¬ s.size ≤ i + 1) (h2 : escC (sb s (i + 1)) = none) (h3 : sb s (i + 1) ≠ 120) (h4 : 128 ≤ sb s (i + 1) ∨ (wordN (sb s (i + 1)) ∧ sb s (i + 1) ≠ 95)) : pEsc s i = .error 83 := by
  unfold pEsc; rw [if_neg h, h2]; show (if sb s (i + 1) = 120 then _ else _) = _; rw [if_neg h3, if_pos h4]
theorem pEsc_ok {s : ByteArray} {i : Nat} (h : ¬ s.size ≤ i + 1) (h2 : escC (sb s (i + 1)) = none) (h3 : sb s (i + 1) ≠ 120) (h4 : ¬ (128 ≤ sb s (i + 1) ∨ (wordN (sb s (i + 1)) ∧ sb s (i + 1) ≠ 95))) : pEsc s i = .ok (sb s (i + 1), i + 2) := by
  unfold pEsc; rw [if_neg h, h2]; show (if sb s (i + 1) = 120 then _ else _) = _; rw [if_neg h3, if_neg h4]
theorem escC_lo {c v : Nat} (h : escC c = some v) : c < 128 := by
  unfold escC at h
  by_cases h1 : c < 128
  · exact h1
  · rw [if_neg (by omega), if_neg (by omega), if_neg (by omega), if_neg (by omega), if_neg (by omega), if_neg (by omega)] at h; cases h
theorem pEsc_b {s : ByteArray} {i n j : Nat} (h : pEsc s i = .ok (n, j)) (hb : Bd s i) (h0 : sb s i = 92) : Bd s j ∧ i < j ∧ n ≤ 1114111 := by
  have hi : i < s.size := by
    rcases Nat.lt_or_ge i s.size with h1 | h1
    · exact h1
    · rw [pEsc_end (by omega)] at h; cases h
  have hb1 := (hb.asc hi (by omega)).1
  unfold pEsc at h
  split at h
  · cases h
  · rename_i h1
    split at h
    · rename_i v hv
      cases h
      have hv2 : n < 128 := by
        unfold escC at hv
        split at hv
        · cases hv; omega
        · split at hv
          · cases hv; omega
          · split at hv
            · cases hv; omega
            · split at hv
              · cases hv; omega
              · split at hv
                · cases hv; omega
                · split at hv
                  · cases hv; omega
                  · cases hv
      exact ⟨(hb1.asc (by omega) (escC_lo hv)).1, by omega, by omega⟩
    · split at h
      · rename_i hx
        obtain ⟨h2, h3, h4⟩ := pHex_b h ((hb1.asc (by omega) (by omega)).1)
        exact ⟨h2, by omega, h4⟩
      · split at h
        · cases h
        · rename_i h5
          cases h
          exact ⟨(hb1.asc (by omega) (by omega)).1, by omega, by omega⟩
theorem escaped_ok {w : World} {b : Nat} {s : ByteArray} {st : PS} {a : Option Addr} {c : Nat} {ob : Option Nat} (hR : RdAt w b s st a c ob) (hs : s.size ≤ 1000000) (hlt : st.pos < s.size) :
    Calls Try.prog 39 #[.pointer (some ⟨b, 0, none⟩)] w (RetP (fun v w' => ∃ n j, pEsc s st.pos = .ok (n, j) ∧ v = .int .i32 (n : Nat) ∧ Evo [b] w w' ∧ RdAt w' b s (pset st j) a c ob) (fun v w' => pEsc s st.pos = .error 83 ∧ v = flt 83 ∧ Evo [b] w w')) := by
  have hap := hR.ap; have hb9 := sb_lt s (st.pos + 1); refine calls_of_cw (N := 63) Try.func39 rfl rfl rfl ?_; refine cw_seq ?_; refine cw_region ?_; refine wl_a ?_; refine wl_nil (nrm_then ?_); refine cw_seq ?_; refine cw_region ?_; refine wl_m ?_; refine wl_val rfl (ex_nilCheck rfl) ?_; refine wl_val rfl (ex_fieldAddr rfl Try.fld41_1) ?_; refine wl_val rfl (ex_load1 rfl Try.agg3 (cell_nth hR.blk rfl)) ?_; refine wl_val rfl (ex_add_i64 rfl rfl (by omega) (by omega)) ?_; refine wl_val rfl (ex_nilCheck rfl) ?_; refine wl_val rfl (ex_fieldAddr rfl Try.fld41_1) ?_; refine wl_store1 rfl rfl (by first | rfl | assumption) Try.size3 hR.blk rfl fun w1 hB2 hw3 => ?_; have hE4 := (Evo.refl [b] w).step hw3 (fun y hy => .inl hy); have hO5 := hR.own.evo hw3 hap.symm.own1
  try simp only [List.setIfInBounds_toArray, List.set_cons_zero, List.set_cons_succ, Nat.reduceAdd, Nat.zero_add, Nat.add_zero] at hB2
  refine wl_nil (nrm_then ?_); refine cw_seq ?_; refine cw_seq ?_; refine cw_quiet (by kernel_rfl) (by kernel_rfl) ?_; refine ql_val rfl (fun _ hq7 => ex_move rfl) ?_; refine ql_val rfl (fun _ hq7 => ex_nilCheck rfl) ?_; refine ql_val rfl (fun _ hq7 => ex_fieldAddr rfl Try.fld41_1) ?_; refine ql_val rfl (fun _ hq7 => ex_load1 rfl Try.agg3 (cell_nth (hq7.blk0 hB2) rfl)) ?_; refine ql_val rfl (fun _ hq7 => ex_move rfl) ?_; refine ql_val rfl (fun _ hq7 => ex_nilCheck rfl) ?_; refine ql_val rfl (fun _ hq7 => ex_fieldAddr rfl Try.fld41_0) ?_; refine ql_val rfl (fun _ hq7 => ex_load1 rfl Try.agg9 (cell_nth (hq7.blk0 hB2) rfl)) ?_; refine ql_val rfl (fun _ hq7 => ex_len_str rfl Try.underlying9 rfl) ?_; refine ql_val rfl (fun _ hq7 => ex_eql rfl rfl) ?_; refine ql_nil (fun wq6 hq7 => nrm_then ?_); have hE8 := hE4.then hq7; have hB9 := hq7.blk0 hB2; have hO10 := hO5.evo0 hq7; refine cw_if rfl (fun hc21 => ?_) (fun hc21 => ?_)
  ·skip
   refine cw_region ?_; refine wl_callP1 (vs := [_]) Try.goes10 rfl (fail_ok 83) rfl ?_ ?_
   ·skip
    intro pv wp hpp; obtain ⟨rfl, hpw⟩ := hpp; exact And.intro rfl ⟨_, rfl, pEsc_end (by omega), rfl, (hE8).then hpw⟩
   intro _ _ hF; exact hF.elim
  ·skip
   have hlt2 : st.pos + 1 < s.size := by omega
   have hle2 : ¬ s.size ≤ st.pos + 1 := by omega
   refine cw_skip (nrm_then ?_); refine cw_seq ?_; refine cw_quiet (by kernel_rfl) (by kernel_rfl) ?_; refine ql_val rfl (fun _ hq14 => ex_move rfl) ?_; refine ql_val rfl (fun _ hq14 => ex_nilCheck rfl) ?_; refine ql_val rfl (fun _ hq14 => ex_fieldAddr rfl Try.fld41_0) ?_; refine ql_val rfl (fun _ hq14 => ex_load1 rfl Try.agg9 (cell_nth (hq14.blk0 hB9) rfl)) ?_; refine ql_val rfl (fun _ hq14 => ex_move rfl) ?_; refine ql_val rfl (fun _ hq14 => ex_nilCheck rfl) ?_; refine ql_val rfl (fun _ hq14 => ex_fieldAddr rfl Try.fld41_1) ?_; refine ql_val rfl (fun _ hq14 => ex_load1 rfl Try.agg3 (cell_nth (hq14.blk0 hB9) rfl)) ?_; refine ql_val rfl (fun _ hq14 => ex_sidx (n := st.pos + 1) rfl rfl Try.underlying9 rfl hlt2) ?_; refine ql_val rfl (fun _ hq14 => ex_assign rfl) ?_; refine ql_nil (fun wq13 hq14 => nrm_then ?_); have hE15 := hE8.then hq14; have hB16 := hq14.blk0 hB9; have hO17 := hO10.evo0 hq14; refine cw_seq ?_; refine cw_region ?_; refine wl_m ?_; refine wl_val rfl (ex_nilCheck rfl) ?_; refine wl_val rfl (ex_fieldAddr rfl Try.fld41_1) ?_; refine wl_val rfl (ex_load1 rfl Try.agg3 (cell_nth hB16 rfl)) ?_; refine wl_val rfl (ex_add_i64 rfl rfl (by omega) (by omega)) ?_; refine wl_val rfl (ex_nilCheck rfl) ?_; refine wl_val rfl (ex_fieldAddr rfl Try.fld41_1) ?_; refine wl_store1 rfl rfl (by first | rfl | assumption) Try.size3 hB16 rfl fun w18 hB19 hw20 => ?_; have hE21 := hE15.step hw20 (fun y hy => .inl hy); have hO22 := hO17.evo hw20 hap.symm.own1
   try simp only [List.setIfInBounds_toArray, List.set_cons_zero, List.set_cons_succ, Nat.reduceAdd, Nat.zero_add, Nat.add_zero] at hB19
   refine wl_nil (nrm_then ?_); refine cw_seq ?_; refine cw_seq ?_; refine cw_region ?_; refine wl_m ?_; refine wl_call1 (vs := [_, _]) Try.goes49 rfl (idxEsc_ok (sb s (st.pos + 1)) hb9) rfl ?_; rintro _ w23 ⟨rfl, hw24⟩; have hE25 := hE21.then hw24; have hB26 := hw24.blk0 hB19; have hO27 := hO22.evo0 hw24; refine wl_a ?_; refine wl_nil (nrm_then ?_); refine cw_seq ?_; refine cw_region ?_; refine wl_m ?_; refine wl_val rfl (ex_geq rfl rfl) ?_; refine wl_nil (nrm_then ?_); refine cw_if rfl (fun hc42 => ?_) (fun hc42 => ?_)
   ·skip
    obtain ⟨k, hk1, hk2, hk3, hk4⟩ := escI_yes hc42; refine cw_seq ?_; refine cw_region ?_; refine wl_m ?_; refine wl_val rfl (ex_sidx (s := escT) (n := k) rfl rfl Try.underlying9 hk1 hk2) ?_; refine wl_val rfl (ex_convF rfl Try.underlying5 Try.underlying21 (i32r (by omega) (by omega)).1 (i32r (by omega) (by omega)).2) ?_; refine wl_a ?_; refine wl_nil (nrm_then ?_); refine cw_ret (ret_then (bodyp_ret (body_ret1 rfl rfl ?_))); exact ⟨_, _, pEsc_c hle2 hk3, rfl, hE25, ⟨hB26, hO27, hR.ne⟩⟩
   ·skip
    have hno := escI_no hc42; refine cw_skip (nrm_then ?_); refine cw_seq ?_; refine cw_seq ?_; refine cw_region ?_; refine wl_m ?_; refine wl_val rfl (ex_eql rfl rfl) ?_; refine wl_nil (nrm_then ?_); refine cw_if rfl (fun hc47 => ?_) (fun hc47 => ?_)
    ·skip
     refine cw_seq ?_; refine cw_region ?_; refine wl_m ?_; refine wl_callP1 (vs := [_]) Try.goes50 rfl (hex_ok (st := pset st (st.pos + 1 + 1)) ⟨hB26, hO27, hR.ne⟩ hs) rfl ?_ ?_
     ·skip
      intro pv wp hpp; obtain ⟨hpe, rfl, hpw⟩ := hpp; exact And.intro rfl ⟨_, rfl, (pEsc_x hle2 (by omega)).trans hpe, rfl, (hE25).step hpw (fun y hy => .inl hy)⟩
     rintro _ w28 ⟨n, j, hx, rfl, hw29, hR2⟩; have hE30 := hE25.step hw29 (fun y hy => .inl hy); refine wl_a ?_; refine wl_nil (nrm_then ?_); refine cw_ret (ret_then (bodyp_ret (body_ret1 rfl rfl ?_))); exact ⟨_, _, (pEsc_x hle2 (by omega)).trans hx, rfl, hE30, hR2⟩
    ·skip
     have hnx : sb s (st.pos + 1) ≠ 120 := by omega
     refine cw_skip (nrm_then ?_); refine cw_seq ?_; refine cw_seq ?_; refine cw_region ?_; refine wl_m ?_; refine wl_val rfl (ex_geq rfl rfl) ?_; refine wl_m ?_; refine wl_split (t := 52) rfl (fun hs52 => ?_) (fun hs52 => ?_)
     ·skip
      refine wl_n ?_; refine wl_n ?_; refine wl_n ?_; refine wl_u ?_; refine wl_u ?_; refine wl_n ?_; refine wl_pt ?_; refine wl_nil (nrm_then ?_); refine cw_true rfl ?_; refine cw_region ?_; refine wl_callP1 (vs := [_]) Try.goes10 rfl (fail_ok 83) rfl ?_ ?_
      ·skip
       intro pv wp hpp; obtain ⟨rfl, hpw⟩ := hpp; exact And.intro rfl ⟨_, rfl, pEsc_bad hle2 hno hnx (by omega), rfl, (hE25).then hpw⟩
      intro _ _ hF; exact hF.elim
     ·skip
      refine wl_g ?_; refine wl_m ?_; refine wl_g ?_; refine wl_call1 (vs := [_]) Try.goes31 rfl (word_ok (sb s (st.pos + 1))) rfl ?_; rintro _ w33 ⟨rfl, hw34⟩; have hE35 := hE25.then hw34; have hB36 := hw34.blk0 hB26; have hO37 := hO27.evo0 hw34; refine wl_g ?_; refine wl_m ?_; refine wl_split (t := 55) rfl (fun hs55 => ?_) (fun hs55 => ?_)
      ·skip
       refine wl_g ?_; refine wl_m ?_; refine wl_g ?_; refine wl_val rfl (ex_neq rfl rfl) ?_; refine wl_g ?_; refine wl_pt ?_; refine wl_pf ?_; refine wl_nil (nrm_then ?_); refine cw_if rfl (fun hc59 => ?_) (fun hc59 => ?_)
       ·skip
        refine cw_region ?_; refine wl_callP1 (vs := [_]) Try.goes10 rfl (fail_ok 83) rfl ?_ ?_
        ·skip
         intro pv wp hpp; obtain ⟨rfl, hpw⟩ := hpp
         exact And.intro rfl ⟨_, rfl, pEsc_bad hle2 hno hnx (by right; exact ⟨hs55, by omega⟩), rfl, (hE35).then hpw⟩
        intro _ _ hF; exact hF.elim
       ·skip
        refine cw_skip (nrm_then ?_); refine cw_seq ?_; refine cw_region ?_; refine wl_m ?_; refine wl_val rfl (ex_convF rfl Try.underlying5 Try.underlying21 (i32r (by omega) (by omega)).1 (i32r (by omega) (by omega)).2) ?_; refine wl_a ?_; refine wl_nil (nrm_then ?_); refine cw_ret (bodyp_ret (body_ret1 rfl rfl ?_))
        exact ⟨_, _, pEsc_ok hle2 hno hnx (by rintro (h1 | ⟨h1, h2⟩); omega; first | exact hs55 h1 | (exact hc59 (by omega))), rfl, hE35, ⟨hB36, hO37, hR.ne⟩⟩
      ·skip
       refine wl_n ?_; refine wl_n ?_; refine wl_g ?_; refine wl_pf ?_; refine wl_pf ?_; refine wl_nil (nrm_then ?_); refine cw_false rfl ?_; refine cw_skip (nrm_then ?_); refine cw_seq ?_; refine cw_region ?_; refine wl_m ?_; refine wl_val rfl (ex_convF rfl Try.underlying5 Try.underlying21 (i32r (by omega) (by omega)).1 (i32r (by omega) (by omega)).2) ?_; refine wl_a ?_; refine wl_nil (nrm_then ?_); refine cw_ret (bodyp_ret (body_ret1 rfl rfl ?_))
       exact ⟨_, _, pEsc_ok hle2 hno hnx (by rintro (h1 | ⟨h1, h2⟩); omega; first | exact hs55 h1 | (exact hc59 (by omega))), rfl, hE35, ⟨hB36, hO37, hR.ne⟩⟩
end Go.Proofs.Ytljadkcojnlioaa
namespace Go.Proofs.Ytljadkcojnlioaa
open Go.Proofs Go.W Go.RowKit
set_option linter.unusedVariables false
set_option linter.unusedSimpArgs false
theorem sub_sz {s : ByteArray} {a b : Nat} (h : b ≤ s.size) : (s.extract a b).size = b - a := by rw [ByteArray.size_extract]; omega
theorem data_sub (s : ByteArray) (j : Nat) : (s.extract j s.size).data.toList = s.data.toList.drop j := by
  rw [ByteArray.data_extract]
  have : s.size = s.data.size := rfl
  rw [this]
  simp only [Array.toList_extract, List.extract]
  exact List.take_of_length_le (by simp)
theorem sb_data (s : ByteArray) {n : Nat} (h : n < s.size) : s.data.toList[n]? = some (UInt8.ofNat (sb s n)) := by
  have h' : n < s.data.size := h
  rw [Array.getElem?_toList, Array.getElem?_eq_getElem h', sb_get s n h]
  show some s.data[n] = some (UInt8.ofNat (s.data[n]).toNat)
  rw [UInt8.ofNat_toNat]
def Occ (s : ByteArray) (a b k : Nat) : Prop := k + 1 < s.size ∧ sb s k = a ∧ sb s (k + 1) = b
instance (s : ByteArray) (a b k : Nat) : Decidable (Occ s a b k) := by unfold Occ; infer_instance
theorem u8_inj {a b : Nat} (ha : a < 256) (hb : b < 256) (h : UInt8.ofNat a = UInt8.ofNat b) : a = b := by
  have := congrArg UInt8.toNat h
  rw [UInt8.toNat_ofNat', UInt8.toNat_ofNat'] at this
  omega
theorem occ_at {s : ByteArray} {a b j i : Nat} (ha : a < 256) (hb : b < 256) (hj : j ≤ s.size) : Go.Lib.occAt (s.extract j s.size).data.toList [UInt8.ofNat a, UInt8.ofNat b] i = decide (Occ s a b (j + i)) := by
  unfold Go.Lib.occAt
  rw [data_sub, List.drop_drop]
  have hlen : s.data.toList.length = s.size := by simp
  by_cases h : j + i + 1 < s.size
  · have e : s.data.toList.drop (j + i) = UInt8.ofNat (sb s (j + i)) :: UInt8.ofNat (sb s (j + i + 1)) :: s.data.toList.drop (j + i + 2) := by
      have h0 := sb_data s (n := j + i) (by omega)
      have h1 := sb_data s (n := j + i + 1) h
      obtain ⟨h2, h3⟩ := List.getElem?_eq_some_iff.1 h0
      obtain ⟨h4, h5⟩ := List.getElem?_eq_some_iff.1 h1
      rw [List.drop_eq_getElem_cons h2, List.drop_eq_getElem_cons h4, h3, h5]
    rw [e]
    have l1 := sb_lt s (j + i)
    have l2 := sb_lt s (j + i + 1)
    simp only [List.isPrefixOf, Bool.and_true]
    rw [Bool.eq_iff_iff]
    simp only [Bool.and_eq_true, beq_iff_eq, decide_eq_true_eq]
    unfold Occ
    constructor
    · rintro ⟨h6, h7⟩; exact ⟨h, (u8_inj ha l1 h6).symm, (u8_inj hb l2 h7).symm⟩
    · rintro ⟨-, h6, h7⟩; rw [h6, h7]; exact ⟨rfl, rfl⟩
  · rw [decide_eq_false (fun h2 => h h2.1)]
    have hl : (s.data.toList.drop (j + i)).length < 2 := by rw [List.length_drop, hlen]; omega
    match s.data.toList.drop (j + i), hl with
    | [], _ => rfl
    | [x], _ => simp [List.isPrefixOf]
theorem find_ok (s : ByteArray) (a b : Nat) : ∀ (f j : Nat), s.size ≤ j + f → (∀ k, pFind s a b f j = some k → j ≤ k ∧ Occ s a b k ∧ ∀ m, j ≤ m → m < k → ¬ Occ s a b m) ∧ (pFind s a b f j = none → ∀ m, j ≤ m → ¬ Occ s a b m)
  | 0, j, hf => ⟨(fun k h => by cases h), fun _ m hm ho => by have := ho.1; omega⟩
  | f + 1, j, hf => by
    obtain ⟨i1, i2⟩ := find_ok s a b f (j + 1) (by omega)
    rw [pFind]
    by_cases h : j + 1 < s.size ∧ sb s j = a ∧ sb s (j + 1) = b
    · rw [if_pos h]
      exact ⟨fun k hk => by cases hk; exact ⟨Nat.le_refl _, h, fun m h1 h2 => by omega⟩, fun h2 => by cases h2⟩
    · rw [if_neg h]
      refine ⟨fun k hk => ?_, fun hk m hm ho => ?_⟩
      · obtain ⟨h1, h2, h3⟩ := i1 k hk
        exact ⟨by omega, h2, fun m h4 h5 ho => by
          rcases Nat.eq_or_lt_of_le h4 with e | e
          · subst e; exact h ho
          · exact h3 m e h5 ho⟩
      · rcases Nat.eq_or_lt_of_le hm with e | e
        · subst e; exact h ho
        · exact i2 hk m e ho
def fndI (s : ByteArray) (a b j : Nat) : Int := match pFind s a b s.size j with | none => -1 | some k => (k : Int) - j
theorem idx_two {s : ByteArray} {a b j : Nat} (ha : a < 256) (hb : b < 256) (hj : j ≤ s.size) : Go.Lib.index (s.extract j s.size).data.toList [UInt8.ofNat a, UInt8.ofNat b] = fndI s a b j := by
  obtain ⟨h1, h2⟩ := find_ok s a b s.size j (by omega)
  have hlen : (s.extract j s.size).data.toList.length = s.size - j := by rw [data_sub, List.length_drop]; simp
  unfold fndI
  cases h : pFind s a b s.size j with
  | none =>
    refine Go.Lib.index_none fun i _ => ?_
    rw [occ_at ha hb hj]
    exact decide_eq_false (h2 h _ (by omega))
  | some k =>
    obtain ⟨h3, h4, h5⟩ := h1 k h
    have e : (k : Int) - j = ((k - j : Nat) : Int) := by omega
    show _ = (k : Int) - j
    rw [e]
    refine Go.Lib.index_first (by rw [hlen]; have := h4.1; omega) ?_ fun i hi => ?_
    · rw [occ_at ha hb hj, show j + (k - j) = k by omega]; exact decide_eq_true h4
    · rw [occ_at ha hb hj]; exact decide_eq_false (h5 _ (by omega) (by omega))
theorem ba_ext {s t : ByteArray} (h : s.size = t.size) (h2 : ∀ k, k < s.size → sb s k = sb t k) : s = t := by
  apply ByteArray.ext
  apply Array.ext h
  intro i h3 h4
  have h5 := h2 i h3
  rw [sb_get s i h3, sb_get t i h4] at h5
  have : (s.data[i]).toNat = (t.data[i]).toNat := h5
  exact UInt8.toNat_inj.1 this
theorem pre_iff {t p : ByteArray} {i : Nat} (hi : i ≤ t.size) : (p.size ≤ (t.extract i t.size).size ∧ (t.extract i t.size).extract 0 p.size = p) ↔ ∀ k, k < p.size → isB t (i + k) (sb p k) := by
  have hs := sub_sz (s := t) (a := i) (Nat.le_refl t.size)
  constructor
  · rintro ⟨h1, h2⟩ k hk
    refine ⟨by omega, ?_⟩
    have e : sb ((t.extract i t.size).extract 0 p.size) k = sb p k := by rw [h2]
    rw [sb_extract h1 (by omega), Nat.zero_add, sb_extract (Nat.le_refl _) (by omega)] at e
    exact e
  · intro h
    have h1 : p.size ≤ (t.extract i t.size).size := by
      rcases Nat.eq_zero_or_pos p.size with h0 | h0
      · omega
      · have := (h (p.size - 1) (by omega)).1; omega
    refine ⟨h1, ba_ext (by rw [sub_sz h1]; omega) fun k hk => ?_⟩
    rw [sub_sz h1] at hk
    rw [sb_extract h1 (by omega), Nat.zero_add, sb_extract (Nat.le_refl _) (by omega)]
    exact (h k (by omega)).2
end Go.Proofs.Ytljadkcojnlioaa
namespace Go.Proofs.Ytljadkcojnlioaa
open Go.Proofs
open Go.W Go.RowKit
attribute [local irreducible] Decidable.decide
set_option linter.unusedSimpArgs false
set_option linter.unusedVariables false
theorem Try.goes26 : Goes Try.prog 26 := ⟨_, Try.func26, by kernel_rfl, by kernel_rfl⟩
theorem Try.goes39 : Goes Try.prog 39 := ⟨_, Try.func39, by kernel_rfl, by kernel_rfl⟩
theorem Try.goes54 : Goes Try.prog 54 := ⟨_, Try.func54, by kernel_rfl, by kernel_rfl⟩
theorem Try.goes56 : Goes Try.prog 56 := ⟨_, Try.func56, by kernel_rfl, by kernel_rfl⟩
theorem ext_from {s : ByteArray} {i k : Nat} (h : i ≤ s.size) : (s.extract i s.size).extract k (s.extract i s.size).size = s.extract (i + k) s.size := by
  have hs := sub_sz (s := s) (a := i) (Nat.le_refl s.size)
  rcases Nat.lt_or_ge s.size (i + k) with hk | hk
  · apply ba_ext
    · rw [sub_sz (Nat.le_refl _), sub_sz (Nat.le_refl _), sub_sz (Nat.le_refl _)]; omega
    · intro j hj; rw [sub_sz (Nat.le_refl _), hs] at hj; omega
  · apply ba_ext
    · rw [sub_sz (Nat.le_refl _), sub_sz (Nat.le_refl _), sub_sz (Nat.le_refl _)]; omega
    · intro j hj
      rw [sub_sz (Nat.le_refl _), hs] at hj
      rw [sb_extract (Nat.le_refl _) (by rw [hs]; omega), sb_extract (Nat.le_refl _) (by omega), sb_extract (Nat.le_refl _) (by omega), Nat.add_assoc]
theorem ext_part {s : ByteArray} {i k m : Nat} (h : i + m ≤ s.size) (hk : k ≤ m) : (s.extract i s.size).extract k m = s.extract (i + k) (i + m) := by
  have hs := sub_sz (s := s) (a := i) (Nat.le_refl s.size)
  apply ba_ext
  · rw [sub_sz (by rw [hs]; omega), sub_sz h]; omega
  · intro j hj
    rw [sub_sz (by rw [hs]; omega)] at hj
    rw [sb_extract (by rw [hs]; omega) (by omega), sb_extract (Nat.le_refl _) (by omega), sb_extract h (by omega), Nat.add_assoc]
theorem sb_from {s : ByteArray} {i k : Nat} (h : i + k < s.size) : sb (s.extract i s.size) k = sb s (i + k) := sb_extract (Nat.le_refl _) h
def Pre (t p : ByteArray) : Prop := p.size ≤ t.size ∧ t.extract 0 p.size = p
instance (t p : ByteArray) : Decidable (Pre t p) := by unfold Pre; infer_instance
theorem pre1 {t : ByteArray} {x : UInt8} {i : Nat} (hi : i ≤ t.size) : Pre (t.extract i t.size) (ByteArray.mk #[x]) ↔ isB t i x.toNat := by
  unfold Pre
  rw [pre_iff hi]
  constructor
  · intro h; exact h 0 (by show 0 < 1; omega)
  · intro h k hk
    have hk' : k < 1 := hk
    obtain rfl : k = 0 := by omega
    exact h
theorem pre2 {t : ByteArray} {x y : UInt8} {i : Nat} (hi : i ≤ t.size) : Pre (t.extract i t.size) (ByteArray.mk #[x, y]) ↔ isB t i x.toNat ∧ isB t (i + 1) y.toNat := by
  unfold Pre
  rw [pre_iff hi]
  constructor
  · intro h; exact ⟨h 0 (by show 0 < 2; omega), h 1 (by show 1 < 2; omega)⟩
  · rintro ⟨h0, h1⟩ k hk
    have hk' : k < 2 := hk
    match k, hk' with
    | 0, _ => exact h0
    | 1, _ => exact h1
theorem pre3 {t : ByteArray} {x y z : UInt8} {i : Nat} (hi : i ≤ t.size) : Pre (t.extract i t.size) (ByteArray.mk #[x, y, z]) ↔ isB t i x.toNat ∧ isB t (i + 1) y.toNat ∧ isB t (i + 2) z.toNat := by
  unfold Pre
  rw [pre_iff hi]
  constructor
  · intro h; exact ⟨h 0 (by show 0 < 3; omega), h 1 (by show 1 < 3; omega), h 2 (by show 2 < 3; omega)⟩
  · rintro ⟨h0, h1, h2⟩ k hk
    have hk' : k < 3 := hk
    match k, hk' with
    | 0, _ => exact h0
    | 1, _ => exact h1
    | 2, _ => exact h2
theorem pre4 {t : ByteArray} {x y z u : UInt8} {i : Nat} (hi : i ≤ t.size) : Pre (t.extract i t.size) (ByteArray.mk #[x, y, z, u]) ↔ isB t i x.toNat ∧ isB t (i + 1) y.toNat ∧ isB t (i + 2) z.toNat ∧ isB t (i + 3) u.toNat := by
  unfold Pre
  rw [pre_iff hi]
  constructor
  · intro h; exact ⟨h 0 (by show 0 < 4; omega), h 1 (by show 1 < 4; omega), h 2 (by show 2 < 4; omega), h 3 (by show 3 < 4; omega)⟩
  · rintro ⟨h0, h1, h2, h3⟩ k hk
    have hk' : k < 4 := hk
    match k, hk' with
    | 0, _ => exact h0
    | 1, _ => exact h1
    | 2, _ => exact h2
    | 3, _ => exact h3
theorem pre_self {t : ByteArray} {x : UInt8} : Pre t (ByteArray.mk #[x]) ↔ isB t 0 x.toNat := by
  have h := pre1 (t := t) (x := x) (i := 0) (Nat.zero_le _)
  rwa [ByteArray.extract_zero_size] at h
def GMax : Nat := 0
def Glb (w : World) : Prop := ∃ m : Int, w.cell? ⟨GMax, 0, none⟩ = some (.int .i64 m)
theorem Glb.evo {X : List Nat} {w w' : World} (h : Glb w) (he : Evo X w w') (hx : GMax ∉ X) : Glb w' := by obtain ⟨m, h⟩ := h; exact ⟨m, he.cell h hx⟩
theorem RdAt.glb {w : World} {b : Nat} {s : ByteArray} {st : PS} {a : Option Addr} {c : Nat} {ob : Option Nat} (h : RdAt w b s st a c ob) (hg : Glb w) : b ≠ GMax := fun e => by
  obtain ⟨m, hm⟩ := hg
  subst e
  have := cell_blk (o := 0) h.blk (v := .string s) rfl
  rw [this] at hm; cases hm
theorem idx2_ok {w : World} (s : ByteArray) (x y : UInt8) (j : Nat) (hj : j ≤ s.size) (hs : s.size ≤ 1000000) (hg : Glb w) : Calls Try.prog 44 #[.string (s.extract j s.size), .string (ByteArray.mk #[x, y])] w (Ret fun v w' => v = iv (fndI s x.toNat y.toNat j) ∧ Evo [] w w') := by
  obtain ⟨m, hm⟩ := hg
  refine (Try.strings_Index _ _ m w (by rw [sub_sz (Nat.le_refl _)]; omega) hm).mono ?_
  rintro e w' ⟨rfl, rfl⟩
  have h := idx_two (s := s) (a := x.toNat) (b := y.toNat) (j := j) x.toNat_lt y.toNat_lt hj
  rw [UInt8.ofNat_toNat, UInt8.ofNat_toNat] at h
  exact ⟨_, rfl, congrArg iv h, Evo.refl _ _⟩
theorem hpreI_ok {w : World} (s p : ByteArray) (hs : s.size ≤ 140737488355328) (hp : p.size ≤ 140737488355328) : Calls Try.prog 54 #[.string s, .string p] w (Ret fun v w' => v = .bool (decide (Pre s p)) ∧ Evo [] w w') := by
  refine calls_of_cw (N := 18) Try.func54 rfl rfl rfl ?_; refine cw_seq ?_; refine cw_region ?_; refine wl_a ?_; refine wl_nil (nrm_then ?_); refine cw_seq ?_; refine cw_region ?_; refine wl_m ?_; refine wl_val rfl (ex_len_str rfl Try.underlying9 rfl) ?_; refine wl_m ?_; refine wl_val rfl (ex_len_str rfl Try.underlying9 rfl) ?_; refine wl_val rfl (ex_geq rfl rfl) ?_; refine wl_m ?_; refine wl_split (t := 10) rfl (fun hs10 => ?_) (fun hs10 => ?_)
  ·skip
   refine wl_g ?_; refine wl_m ?_; refine wl_g ?_; refine wl_m ?_; refine wl_g ?_; refine wl_val rfl (ex_len_str rfl Try.underlying9 rfl) ?_; refine wl_g ?_; refine wl_val rfl (ex_ssubTo (h := p.size) rfl rfl Try.underlying9 rfl (by omega)) ?_; refine wl_g ?_; refine wl_m ?_; refine wl_g ?_; refine wl_val rfl (ex_eqs rfl rfl) ?_; refine wl_pt ?_; refine wl_a ?_; refine wl_nil (nrm_then ?_); refine cw_ret (body_ret1 rfl rfl ?_); refine ⟨congrArg Value.bool (decide_eq_decide.2 ?_), (Evo.refl [] w)⟩; exact ⟨fun h => ⟨by omega, h⟩, fun h => h.2⟩
  ·skip
   refine wl_n ?_; refine wl_n ?_; refine wl_n ?_; refine wl_n ?_; refine wl_n ?_; refine wl_n ?_; refine wl_pf ?_; refine wl_a ?_; refine wl_nil (nrm_then ?_); refine cw_ret (body_ret1 rfl rfl ?_)
   exact ⟨congrArg Value.bool (decide_eq_false (fun h => by have := h.1; omega)).symm, (Evo.refl [] w)⟩
theorem hpre_ok {w : World} (s p : ByteArray) (hs : s.size ≤ 140737488355328) (hp : p.size ≤ 140737488355328) : Calls Try.prog 42 #[.string s, .string p] w (Ret fun v w' => v = .bool (decide (Pre s p)) ∧ Evo [] w w') := by
  refine calls_of_cw (N := 8) Try.func42 rfl rfl rfl ?_; refine cw_seq ?_; refine cw_region ?_; refine wl_a ?_; refine wl_nil (nrm_then ?_); refine cw_seq ?_; refine cw_region ?_; refine wl_m ?_; refine wl_m ?_; refine wl_call1 (vs := [_, _]) Try.goes54 rfl (hpreI_ok s p hs hp) rfl ?_; rintro _ w1 ⟨rfl, hw2⟩; have hE3 := (Evo.refl [] w).then hw2; refine wl_a ?_; refine wl_nil (nrm_then ?_); refine cw_ret (body_ret1 rfl rfl ?_); exact ⟨rfl, hE3⟩
theorem cutI_ok {w : World} (s p : ByteArray) (hs : s.size ≤ 140737488355328) (hp : p.size ≤ 140737488355328) : Calls Try.prog 56 #[.string s, .string p] w (Ret fun v w' => v = .tuple #[.string (if Pre s p then s.extract p.size s.size else s), .bool (decide (Pre s p))] ∧ Evo [] w w') := by
  refine calls_of_cw (N := 15) Try.func56 rfl rfl rfl ?_; refine cw_seq ?_; refine cw_region ?_; refine wl_a ?_; refine wl_a ?_; refine wl_nil (nrm_then ?_); refine cw_seq ?_; refine cw_seq ?_; refine cw_region ?_; refine wl_m ?_; refine wl_m ?_; refine wl_call1 (vs := [_, _]) Try.goes54 rfl (hpreI_ok s p hs hp) rfl ?_; rintro _ w1 ⟨rfl, hw2⟩; have hE3 := (Evo.refl [] w).then hw2; refine wl_val rfl (ex_not rfl) ?_; refine wl_nil (nrm_then ?_); refine cw_if rfl (fun hc9 => ?_) (fun hc9 => ?_)
  ·skip
   refine cw_seq ?_; refine cw_region ?_; refine wl_m ?_; refine wl_a ?_; refine wl_a ?_; refine wl_nil (nrm_then ?_); refine cw_ret (ret_then (body_ret2 rfl rfl rfl ?_)); exact ⟨by rw [if_neg hc9, decide_eq_false hc9], hE3⟩
  ·skip
   refine cw_skip (nrm_then ?_); refine cw_seq ?_; refine cw_region ?_; refine wl_m ?_; refine wl_m ?_; refine wl_val rfl (ex_len_str rfl Try.underlying9 rfl) ?_
   refine wl_val rfl (ex_ssubFrom (l := p.size) rfl rfl Try.underlying9 rfl (by have := Classical.not_not.1 hc9; exact this.1)) ?_
   refine wl_a ?_; refine wl_a ?_; refine wl_nil (nrm_then ?_); refine cw_ret (body_ret2 rfl rfl rfl ?_); have h9 := Classical.not_not.1 hc9; exact ⟨by rw [if_pos h9, decide_eq_true h9], hE3⟩
theorem cut_ok {w : World} (s p : ByteArray) (hs : s.size ≤ 140737488355328) (hp : p.size ≤ 140737488355328) : Calls Try.prog 45 #[.string s, .string p] w (Ret fun v w' => v = .tuple #[.string (if Pre s p then s.extract p.size s.size else s), .bool (decide (Pre s p))] ∧ Evo [] w w') := by
  refine calls_of_cw (N := 11) Try.func45 rfl rfl rfl ?_; refine cw_seq ?_; refine cw_region ?_; refine wl_a ?_; refine wl_a ?_; refine wl_nil (nrm_then ?_); refine cw_seq ?_; refine cw_region ?_; refine wl_m ?_; refine wl_m ?_; refine wl_call1 (vs := [_, _]) Try.goes56 rfl (cutI_ok s p hs hp) rfl ?_; rintro _ w1 ⟨rfl, hw2⟩; have hE3 := (Evo.refl [] w).then hw2; refine wl_val rfl (ex_extract rfl rfl) ?_; refine wl_val rfl (ex_extract rfl rfl) ?_; refine wl_a ?_; refine wl_a ?_; refine wl_nil (nrm_then ?_); refine cw_ret (body_ret2 rfl rfl rfl ?_); exact ⟨rfl, hE3⟩
theorem pOne_esc {s : ByteArray} {i v j : Nat} (h : sb s i = 92) (h2 : pEsc s i = .ok (v, j)) : pOne s i = .ok ((v : Int), j) := by unfold pOne; rw [if_pos h, h2]
theorem pOne_err {s : ByteArray} {i : Nat} {e : Int} (h : sb s i = 92) (h2 : pEsc s i = .error e) : pOne s i = .error e := by unfold pOne; rw [if_pos h, h2]
theorem pOne_raw {s : ByteArray} {i : Nat} (h : ¬ sb s i = 92) : pOne s i = .ok ((nextR s i).1, i + (nextR s i).2) := by unfold pOne; rw [if_neg h]
theorem pOne_b {s : ByteArray} {i j : Nat} {r : Int} (h : pOne s i = .ok (r, j)) (hb : Bd s i) (hi : i < s.size) : Bd s j ∧ i < j ∧ 0 ≤ r ∧ r ≤ 1114111 := by
  by_cases h1 : sb s i = 92
  · unfold pOne at h
    rw [if_pos h1] at h
    cases h2 : pEsc s i with
    | error e => rw [h2] at h; cases h
    | ok x =>
      obtain ⟨n, k⟩ := x
      rw [h2] at h
      cases h
      obtain ⟨h3, h4, h5⟩ := pEsc_b h2 hb h1
      exact ⟨h3, h4, by omega, by omega⟩
  · rw [pOne_raw h1] at h
    cases h
    obtain ⟨h3, h4, h5, h6, h7⟩ := hb.next hi
    exact ⟨h5, by omega, h6, h7⟩
theorem single_ok {w : World} {b : Nat} {s : ByteArray} {st : PS} {a : Option Addr} {c : Nat} {ob : Option Nat} (hR : RdAt w b s st a c ob) (hs : s.size ≤ 1000000) (hlt : st.pos < s.size) (hb : Bd s st.pos) :
    Calls Try.prog 47 #[.pointer (some ⟨b, 0, none⟩)] w (RetP (fun v w' => ∃ r j, pOne s st.pos = .ok (r, j) ∧ v = .int .i32 r ∧ Evo [b] w w' ∧ RdAt w' b s (pset st j) a c ob) (fun v w' => pOne s st.pos = .error 83 ∧ v = flt 83 ∧ Evo [b] w w')) := by
  have hap := hR.ap; refine calls_of_cw (N := 17) Try.func47 rfl rfl rfl ?_; refine cw_seq ?_; refine cw_region ?_; refine wl_a ?_; refine wl_nil (nrm_then ?_); refine cw_seq ?_; refine cw_seq ?_; refine cw_quiet (by kernel_rfl) (by kernel_rfl) ?_; refine ql_val rfl (fun _ hq2 => ex_move rfl) ?_; refine ql_val rfl (fun _ hq2 => ex_nilCheck rfl) ?_; refine ql_val rfl (fun _ hq2 => ex_fieldAddr rfl Try.fld41_0) ?_; refine ql_val rfl (fun _ hq2 => ex_load1 rfl Try.agg9 (cell_nth (hq2.blk0 hR.blk) rfl)) ?_; refine ql_val rfl (fun _ hq2 => ex_move rfl) ?_; refine ql_val rfl (fun _ hq2 => ex_nilCheck rfl) ?_; refine ql_val rfl (fun _ hq2 => ex_fieldAddr rfl Try.fld41_1) ?_; refine ql_val rfl (fun _ hq2 => ex_load1 rfl Try.agg3 (cell_nth (hq2.blk0 hR.blk) rfl)) ?_; refine ql_val rfl (fun _ hq2 => ex_sidx (n := st.pos) rfl rfl Try.underlying9 rfl hlt) ?_; refine ql_val rfl (fun _ hq2 => ex_eql rfl rfl) ?_; refine ql_nil (fun wq1 hq2 => nrm_then ?_); have hE3 := (Evo.refl [b] w).then hq2; have hB4 := hq2.blk0 hR.blk; have hO5 := hR.own.evo0 hq2; refine cw_if rfl (fun hc12 => ?_) (fun hc12 => ?_)
  ·skip
   refine cw_seq ?_; refine cw_region ?_; refine wl_m ?_; refine wl_callP1 (vs := [_]) Try.goes39 rfl (escaped_ok ⟨hB4, hO5, hR.ne⟩ hs hlt) rfl ?_ ?_
   ·skip
    intro pv wp hpp; obtain ⟨hpe, rfl, hpw⟩ := hpp; exact And.intro rfl ⟨_, rfl, pOne_err (by omega) hpe, rfl, (hE3).step hpw (fun y hy => .inl hy)⟩
   rintro _ w6 ⟨n, j, hx, rfl, hw7, hR1⟩; have hE8 := hE3.step hw7 (fun y hy => .inl hy); refine wl_a ?_; refine wl_nil (nrm_then ?_); refine cw_ret (ret_then (bodyp_ret (body_ret1 rfl rfl ?_))); exact ⟨_, _, pOne_esc (by omega) hx, rfl, hE8, hR1⟩
  ·skip
   refine cw_skip (nrm_then ?_); refine cw_seq ?_; refine cw_region ?_; refine wl_m ?_; refine wl_call1 (vs := [_]) Try.goes26 rfl (rune_ok ⟨hB4, hO5, hR.ne⟩ hs hb) rfl ?_; rintro _ w9 ⟨rfl, hw10, hR2⟩; have hE11 := hE3.step hw10 (fun y hy => .inl hy); refine wl_a ?_; refine wl_nil (nrm_then ?_); refine cw_ret (bodyp_ret (body_ret1 rfl rfl ?_)); exact ⟨_, _, pOne_raw (by omega), rfl, hE11, hR2⟩
end Go.Proofs.Ytljadkcojnlioaa
namespace Go.Proofs.Ytljadkcojnlioaa
open Go.Proofs
open Go.W Go.RowKit
attribute [local irreducible] Decidable.decide
set_option linter.unusedSimpArgs false
set_option linter.unusedVariables false
theorem Try.goes38 : Goes Try.prog 38 := ⟨_, Try.func38, by kernel_rfl, by kernel_rfl⟩
theorem Try.goes42 : Goes Try.prog 42 := ⟨_, Try.func42, by kernel_rfl, by kernel_rfl⟩
theorem Try.goes44 : Goes Try.prog 44 := ⟨_, Try.func44, by kernel_rfl, by kernel_rfl⟩
theorem Try.goes45 : Goes Try.prog 45 := ⟨_, Try.func45, by kernel_rfl, by kernel_rfl⟩
theorem Try.goes46 : Goes Try.prog 46 := ⟨_, Try.func46, by kernel_rfl, by kernel_rfl⟩
theorem Try.goes47 : Goes Try.prog 47 := ⟨_, Try.func47, by kernel_rfl, by kernel_rfl⟩
def LetU (w w' : World) (v : Value) (o : Option (Int → Prop)) : Prop := ∃ a c ob l, v = .tuple #[.slice a l.length c, .bool o.isSome] ∧ OwnS w' 66 2 a l.length c (rcells l) ob ∧ Ge w ob ∧ Vr l ∧ l.length ≤ 8 ∧ ∀ S, o = some S → ∀ c, InR c l ↔ S c
theorem LetOut.uni {w w' : World} {v : Value} {o : Option (Int → Prop)} (h : LetOut w w' v o) : LetU w w' v o := by
  rcases h with ⟨rfl, rfl⟩ | ⟨S, v', rfl, rfl, a, c, ob, l, rfl, h2, h3, h4, h5, h6⟩
  · exact ⟨none, 0, none, [], rfl, OwnS.nil _ _ _, Ge.nil _, (fun g hg => by cases hg), Nat.zero_le _, fun S h => by cases h⟩
  · exact ⟨a, c, ob, l, rfl, h2, h3, h4, h6, fun S' e => by cases e; exact h5⟩
theorem some_of {α : Type} {o : Option α} (h : o.isSome = true) : ∃ x, o = some x := Option.isSome_iff_exists.1 h
theorem none_of {α : Type} {o : Option α} (h : (!o.isSome) = true) : o = none := by cases o with | none => rfl | some x => cases h
theorem none_of' {α : Type} {o : Option α} (h : o.isSome = false) : o = none := by cases o with | none => rfl | some x => cases h
theorem fnd_yes {s : ByteArray} {a b j : Nat} (h : 0 ≤ fndI s a b j) : ∃ k, pFind s a b s.size j = some k ∧ fndI s a b j = (k : Int) - (j : Nat) ∧ j ≤ k ∧ k + 1 < s.size := by
  unfold fndI at *
  cases hf : pFind s a b s.size j with
  | none => rw [hf] at h; exact absurd h (show ¬ (0 : Int) ≤ -1 by omega)
  | some k =>
    obtain ⟨h1, h2, h3⟩ := (find_ok s a b s.size j (by omega)).1 k hf
    exact ⟨k, rfl, rfl, h1, h2.1⟩
theorem fnd_no {s : ByteArray} {a b j : Nat} (h : ¬ 0 ≤ fndI s a b j) : pFind s a b s.size j = none := by
  unfold fndI at h
  cases hf : pFind s a b s.size j with
  | none => rfl
  | some k =>
    rw [hf] at h
    obtain ⟨h1, h2, h3⟩ := (find_ok s a b s.size j (by omega)).1 k hf
    exact absurd (show (0 : Int) ≤ (k : Int) - j by omega) h
section
variable {s : ByteArray} {i k j m : Nat} {S : Int → Prop} {r q : Int} {e : Int}
theorem it_cut (h1 : isB s i 91 ∧ isB s (i + 1) 58) (h2 : pFind s 58 93 s.size (i + 2) = some k) (h3 : i + 2 < k ∧ sb s (i + 2) = 94) (h4 : namS (s.extract (i + 3) k) = some S) : pItem s i = .ok (negS S, k + 2) := by unfold pItem; rw [if_pos h1, h2]; show (if _ then _ else _) = _; rw [if_pos h3, h4]
theorem it_cutN (h1 : isB s i 91 ∧ isB s (i + 1) 58) (h2 : pFind s 58 93 s.size (i + 2) = some k) (h3 : i + 2 < k ∧ sb s (i + 2) = 94) (h4 : namS (s.extract (i + 3) k) = none) : pItem s i = .error 81 := by unfold pItem; rw [if_pos h1, h2]; show (if _ then _ else _) = _; rw [if_pos h3, h4]
theorem it_nam (h1 : isB s i 91 ∧ isB s (i + 1) 58) (h2 : pFind s 58 93 s.size (i + 2) = some k) (h3 : ¬ (i + 2 < k ∧ sb s (i + 2) = 94)) (h4 : namS (s.extract (i + 2) k) = some S) : pItem s i = .ok (S, k + 2) := by unfold pItem; rw [if_pos h1, h2]; show (if _ then _ else _) = _; rw [if_neg h3, h4]
theorem it_namN (h1 : isB s i 91 ∧ isB s (i + 1) 58) (h2 : pFind s 58 93 s.size (i + 2) = some k) (h3 : ¬ (i + 2 < k ∧ sb s (i + 2) = 94)) (h4 : namS (s.extract (i + 2) k) = none) : pItem s i = .error 81 := by unfold pItem; rw [if_pos h1, h2]; show (if _ then _ else _) = _; rw [if_neg h3, h4]
theorem it_rest (h : (isB s i 91 ∧ isB s (i + 1) 58) → pFind s 58 93 s.size (i + 2) = none) : pItem s i = pItemR s i := by
  unfold pItem
  by_cases h1 : isB s i 91 ∧ isB s (i + 1) 58
  · rw [if_pos h1, h h1]
  · rw [if_neg h1]
theorem it_let (h1 : i + 1 < s.size ∧ sb s i = 92) (h2 : letS (sb s (i + 1)) = some S) : pItemR s i = .ok (S, i + 2) := by unfold pItemR; rw [if_pos h1, h2]
theorem it_rng (h : (i + 1 < s.size ∧ sb s i = 92) → letS (sb s (i + 1)) = none) : pItemR s i = pRange s i := by
  unfold pItemR
  by_cases h1 : i + 1 < s.size ∧ sb s i = 92
  · rw [if_pos h1, h h1]
  · rw [if_neg h1]
theorem rg_err (h : pOne s i = .error e) : pRange s i = .error e := by unfold pRange; rw [h]
theorem rg_one (h : pOne s i = .ok (r, j)) (h2 : ¬ (isB s j 45 ∧ j + 1 < s.size ∧ sb s (j + 1) ≠ 93)) : pRange s i = .ok (rgS r r, j) := by unfold pRange; rw [h]; show (if _ then _ else _) = _; rw [if_neg h2]
theorem rg_err2 (h : pOne s i = .ok (r, j)) (h2 : isB s j 45 ∧ j + 1 < s.size ∧ sb s (j + 1) ≠ 93) (h3 : pOne s (j + 1) = .error e) : pRange s i = .error e := by unfold pRange; rw [h]; show (if _ then _ else _) = _; rw [if_pos h2, h3]
theorem rg_bad (h : pOne s i = .ok (r, j)) (h2 : isB s j 45 ∧ j + 1 < s.size ∧ sb s (j + 1) ≠ 93) (h3 : pOne s (j + 1) = .ok (q, m)) (h4 : q < r) : pRange s i = .error 81 := by unfold pRange; rw [h]; show (if _ then _ else _) = _; rw [if_pos h2, h3]; show (if _ then _ else _) = _; rw [if_pos h4]
theorem rg_two (h : pOne s i = .ok (r, j)) (h2 : isB s j 45 ∧ j + 1 < s.size ∧ sb s (j + 1) ≠ 93) (h3 : pOne s (j + 1) = .ok (q, m)) (h4 : ¬ q < r) : pRange s i = .ok (rgS r q, m) := by unfold pRange; rw [h]; show (if _ then _ else _) = _; rw [if_pos h2, h3]; show (if _ then _ else _) = _; rw [if_neg h4]
end
theorem next_mid {s : ByteArray} {a : Nat} (h : 0 < (nextR s a).2) {t : Nat} (h1 : 1 ≤ t) (h2 : t < (nextR s a).2) : 128 ≤ sb s (a + t) := by
  have ha : a < s.size := by
    rcases Nat.lt_or_ge a s.size with h3 | h3
    · exact h3
    · rw [next_out h3] at h; cases h
  rcases decode_cases s a ha with ⟨w, hw1, hw4, hws, hit, -⟩ | ⟨hn, -⟩
  · obtain ⟨e, -⟩ := next_hit hw1 hw4 hws hit
    rw [e] at h2
    replace h2 : t < w := h2
    match w, hw1, hw4, hit, h2 with
    | 1, _, _, _, h2 => omega
    | 2, _, _, hit, h2 =>
      have := (hit2 s a).1 hit
      obtain rfl : t = 1 := by omega
      omega
    | 3, _, _, hit, h2 =>
      have := (hit3 s a).1 hit
      obtain rfl | rfl : t = 1 ∨ t = 2 := by omega
      · omega
      · omega
    | 4, _, _, hit, h2 =>
      have := (hit4 s a).1 hit
      obtain rfl | rfl | rfl : t = 1 ∨ t = 2 ∨ t = 3 := by omega
      · omega
      · omega
      · omega
  · rw [next_none hn] at h; cases h
theorem bd_of_asc {s : ByteArray} {i k : Nat} (hb : Bd s i) (hik : i ≤ k) (hk : k < s.size) (ha : sb s k < 128) : Bd s k := by
  obtain ⟨N, -, hU, -, -⟩ := hb
  have key : ∀ m, m ≤ N → k < offs s m → ∃ n, n < N ∧ offs s n ≤ k ∧ k < offs s (n + 1) := by
    intro m
    induction m with
    | zero => intro _ h; exact absurd h (Nat.not_lt_zero _)
    | succ m ih =>
      intro hm h
      by_cases h1 : k < offs s m
      · exact ih (by omega) h1
      · exact ⟨m, hm, by omega, h⟩
  obtain ⟨n, h1, h2, h3⟩ := key N (Nat.le_refl _) (by rw [hU.1]; exact hk)
  rcases Nat.eq_or_lt_of_le h2 with e | e
  · exact ⟨N, n, hU, by omega, e⟩
  · have h4 := next_mid (hU.2 n h1) (t := k - offs s n) (by omega) (by rw [offs] at h3; omega)
    rw [show offs s n + (k - offs s n) = k by omega] at h4
    omega
theorem rg_in (r q x : Int) : InR x [(r, q)] ↔ rgS r q x := by rw [inR_one]; exact Iff.rfl
theorem pItem_b {s : ByteArray} {i j : Nat} {S : Int → Prop} (h : pItem s i = .ok (S, j)) (hb : Bd s i) (hi : i < s.size) : Bd s j ∧ i < j := by
  have hrange : pRange s i = .ok (S, j) → Bd s j ∧ i < j := fun h => by
    unfold pRange at h
    cases h1 : pOne s i with
    | error e => rw [h1] at h; cases h
    | ok x =>
      obtain ⟨lo, k⟩ := x
      obtain ⟨h2, h3, -⟩ := pOne_b h1 hb hi
      rw [h1] at h
      replace h : (if isB s k 45 ∧ k + 1 < s.size ∧ sb s (k + 1) ≠ 93 then (match pOne s (k + 1) with | .error e => .error e | .ok (hi, k) => if hi < lo then .error 81 else .ok (rgS lo hi, k)) else .ok (rgS lo lo, k) : PR) = .ok (S, j) := h
      split at h
      · rename_i h4
        have h5 := h4.1.asc (by decide) h2
        cases h6 : pOne s (k + 1) with
        | error e => rw [h6] at h; cases h
        | ok y =>
          obtain ⟨hi2, m⟩ := y
          obtain ⟨h7, h8, -⟩ := pOne_b h6 h5 h4.2.1
          rw [h6] at h
          replace h : (if hi2 < lo then .error 81 else .ok (rgS lo hi2, m) : PR) = .ok (S, j) := h
          split at h
          · cases h
          · cases h; exact ⟨h7, by omega⟩
      · cases h; exact ⟨h2, h3⟩
  have hrest : pItemR s i = .ok (S, j) → Bd s j ∧ i < j := fun h => by
    unfold pItemR at h
    split at h
    · rename_i h1
      cases h2 : letS (sb s (i + 1)) with
      | none => rw [h2] at h; exact hrange h
      | some S' =>
        rw [h2] at h
        cases h
        have h3 := (hb.asc hi (by omega)).1
        refine ⟨(h3.asc h1.1 ?_).1, by omega⟩
        rcases Nat.lt_or_ge (sb s (i + 1)) 128 with h4 | h4
        · exact h4
        · rw [letS_none (by omega)] at h2; cases h2
    · exact hrange h
  unfold pItem at h
  split at h
  · rename_i h1
    cases h2 : pFind s 58 93 s.size (i + 2) with
    | none => rw [h2] at h; exact hrest h
    | some k =>
      rw [h2] at h
      obtain ⟨h3, h4, -⟩ := (find_ok s 58 93 s.size (i + 2) (by omega)).1 k h2
      have hk : ∃ S', (.ok (S', k + 2) : PR) = .ok (S, j) := by
        replace h : (if i + 2 < k ∧ sb s (i + 2) = 94 then (match namS (s.extract (i + 3) k) with | none => .error 81 | some S => .ok (negS S, k + 2)) else (match namS (s.extract (i + 2) k) with | none => .error 81 | some S => .ok (S, k + 2)) : PR) = .ok (S, j) := h
        split at h
        · split at h
          · cases h
          · exact ⟨_, h⟩
        · split at h
          · cases h
          · exact ⟨_, h⟩
      obtain ⟨S', h5⟩ := hk
      cases h5
      have h6 : Bd s k := bd_of_asc hb (by omega) (by have := h4.1; omega) (by have := h4.2.1; omega)
      exact ⟨isB.asc (b := 93) ⟨h4.1, h4.2.2⟩ (by decide) (isB.asc (b := 58) ⟨by have := h4.1; omega, h4.2.1⟩ (by decide) h6), by omega⟩
  · exact hrest h
theorem cut_iff {s : ByteArray} {i k : Nat} (hk : k ≤ s.size) : (Pre (s.extract i k) (ByteArray.mk #[94]) ↔ i < k ∧ sb s i = 94) ∧ (i < k → (s.extract i k).extract (ByteArray.mk #[94]).size (s.extract i k).size = s.extract (i + 1) k) := by
  have hns := sub_sz (s := s) (a := i) (b := k) hk
  constructor
  · rw [pre_self]
    constructor
    · rintro ⟨h1, h2⟩
      rw [hns] at h1
      rw [sb_extract hk (by omega)] at h2
      exact ⟨by omega, h2⟩
    · rintro ⟨h1, h2⟩
      exact ⟨by rw [hns]; omega, by rw [sb_extract hk (by omega)]; exact h2⟩
  · intro h1
    show (s.extract i k).extract 1 (s.extract i k).size = _
    apply ba_ext
    · rw [sub_sz (Nat.le_refl _), hns, sub_sz hk]; omega
    · intro j hj
      rw [sub_sz (Nat.le_refl _), hns] at hj
      rw [sb_extract (Nat.le_refl _) (by rw [hns]; omega), sb_extract hk (by omega), sb_extract hk (by omega), Nat.add_assoc]
theorem item_ok {w : World} {b : Nat} {s : ByteArray} {st : PS} {a : Option Addr} {c : Nat} {ob : Option Nat} (hR : RdAt w b s st a c ob) (hs : s.size ≤ 1000000) (hlt : st.pos < s.size) (hb : Bd s st.pos) (hG : Glb w) :
    Calls Try.prog 34 #[.pointer (some ⟨b, 0, none⟩)] w (RetP (fun v w' => ∃ S j, pItem s st.pos = .ok (S, j) ∧ SetOut w w' v S 16 ∧ Evo [b] w w' ∧ RdAt w' b s (pset st j) a c ob) (fun v w' => ∃ e, pItem s st.pos = .error e ∧ v = flt e ∧ Evo [b] w w')) := by
  have hap := hR.ap; have hgb : GMax ∉ [b] := fun h => hR.glb hG (List.mem_singleton.1 h).symm
  have hle : st.pos ≤ s.size := by omega
  have hrs := sub_sz (s := s) (a := st.pos) (Nat.le_refl s.size); have e0 : sb (s.extract st.pos s.size) 0 = sb s st.pos := sb_from (by omega); refine calls_of_cw (N := 126) Try.func34 rfl rfl rfl ?_; refine cw_seq ?_; refine cw_region ?_; refine wl_a ?_; refine wl_nil (nrm_then ?_); refine cw_seq ?_; refine cw_quiet (by kernel_rfl) (by kernel_rfl) ?_; refine ql_val rfl (fun _ hq2 => ex_move rfl) ?_; refine ql_val rfl (fun _ hq2 => ex_nilCheck rfl) ?_; refine ql_val rfl (fun _ hq2 => ex_fieldAddr rfl Try.fld41_0) ?_; refine ql_val rfl (fun _ hq2 => ex_load1 rfl Try.agg9 (cell_nth (hq2.blk0 hR.blk) rfl)) ?_; refine ql_val rfl (fun _ hq2 => ex_move rfl) ?_; refine ql_val rfl (fun _ hq2 => ex_nilCheck rfl) ?_; refine ql_val rfl (fun _ hq2 => ex_fieldAddr rfl Try.fld41_1) ?_; refine ql_val rfl (fun _ hq2 => ex_load1 rfl Try.agg3 (cell_nth (hq2.blk0 hR.blk) rfl)) ?_; refine ql_val rfl (fun _ hq2 => ex_ssubFrom (l := st.pos) rfl rfl Try.underlying9 rfl hle) ?_; refine ql_val rfl (fun _ hq2 => ex_assign rfl) ?_; refine ql_nil (fun wq1 hq2 => nrm_then ?_); have hE3 := (Evo.refl [b] w).then hq2; have hB4 := hq2.blk0 hR.blk; have hO5 := hR.own.evo0 hq2; refine cw_seq ?_; refine cw_seq ?_; refine cw_region ?_; refine wl_m ?_; refine wl_call1 (vs := [_, _]) Try.goes42 rfl (hpre_ok (s.extract st.pos s.size) (ByteArray.mk #[91, 58]) (by omega) (show 2 ≤ 140737488355328 by omega)) rfl ?_; rintro _ w6 ⟨rfl, hw7⟩; have hE8 := hE3.then hw7; have hB9 := hw7.blk0 hB4; have hO10 := hO5.evo0 hw7; refine wl_nil (nrm_then ?_); refine cw_if rfl (fun hc23 => ?_) (fun hc23 => ?_)
  ·skip
   have hh2 := (pre2 hle).1 hc23; refine cw_seq ?_; refine cw_region ?_; refine wl_m ?_
   refine wl_val rfl (ex_ssubFromE (l := 2) rfl rfl Try.underlying9 rfl (by have := hh2.2.1; omega) (ext_from hle)) ?_
   refine wl_call1 (vs := [_, _]) Try.goes44 rfl (idx2_ok s 58 93 (st.pos + 2) (by have := hh2.2.1; omega) hs (hG.evo hE8 hgb)) rfl ?_
   rintro _ w11 ⟨rfl, hw12⟩; have hE13 := hE8.then hw12; have hB14 := hw12.blk0 hB9; have hO15 := hO10.evo0 hw12; refine wl_a ?_; refine wl_nil (nrm_then ?_); refine cw_seq ?_; refine cw_region ?_; refine wl_m ?_; refine wl_val rfl (ex_geq rfl rfl) ?_; refine wl_nil (nrm_then ?_); refine cw_if rfl (fun hc28 => ?_) (fun hc28 => ?_)
   ·skip
    obtain ⟨k, hk, hfk, hk2, hk3⟩ := fnd_yes hc28; rw [hfk]
    have e33 : (s.extract st.pos s.size).extract 2 (k - st.pos) = s.extract (st.pos + 2) k := by rw [ext_part (by omega) (by omega), show st.pos + (k - st.pos) = k by omega]
    have hns := sub_sz (s := s) (a := st.pos + 2) (b := k) (by omega); have hcut := cut_iff (s := s) (i := st.pos + 2) (k := k) (by omega); refine cw_seq ?_; refine cw_region ?_; refine wl_m ?_; refine wl_m ?_; refine wl_val rfl (ex_add_i64 rfl rfl (by omega) (by omega)) ?_; refine wl_val rfl (ex_ssubE (l := 2) (h := k - st.pos) rfl rfl rfl Try.underlying9 rfl (by omega) (by omega) (by omega) e33) ?_; refine wl_call1 (vs := [_, _]) Try.goes45 rfl (cut_ok (s.extract (st.pos + 2) k) (ByteArray.mk #[94]) (by omega) (show 1 ≤ 140737488355328 by omega)) rfl ?_; rintro _ w16 ⟨rfl, hw17⟩; have hE18 := hE13.then hw17; have hB19 := hw17.blk0 hB14; have hO20 := hO15.evo0 hw17
    generalize hnm : (if Pre (s.extract (st.pos + 2) k) (ByteArray.mk #[94]) then (s.extract (st.pos + 2) k).extract (ByteArray.mk #[94]).size (s.extract (st.pos + 2) k).size else s.extract (st.pos + 2) k) = nm
    refine wl_m ?_; refine wl_val rfl (ex_extract rfl rfl) ?_; refine wl_val rfl (ex_extract rfl rfl) ?_; refine wl_a ?_; refine wl_a ?_; refine wl_nil (nrm_then ?_); refine cw_seq ?_; refine cw_region ?_; refine wl_m ?_; refine wl_call1 (vs := [_]) Try.goes46 rfl (named_ok nm) rfl ?_; rintro rv w21 ⟨hL, hw22⟩; obtain ⟨a1, c1, ob1, l1, rfl, hO1, hg1, hv1, hl1, hS1⟩ := hL.uni; have hA23 := Apart.fresh (Lt.blk hB19) hg1; have hA24 := Apart.fresh (Lt.own hO20) hg1; have hG25 := Ge.fresh hE18 hg1; have hE26 := hE18.then hw22; have hB27 := hw22.blk0 hB19; have hO28 := hO20.evo0 hw22; refine wl_m ?_; refine wl_val rfl (ex_extract rfl rfl) ?_; refine wl_val rfl (ex_extract rfl rfl) ?_; refine wl_a ?_; refine wl_a ?_; refine wl_nil (nrm_then ?_); refine cw_seq ?_; refine cw_seq ?_; refine cw_region ?_; refine wl_m ?_; refine wl_val rfl (ex_notb rfl) ?_; refine wl_nil (nrm_then ?_); refine cw_ifb rfl (fun hc43 => ?_) (fun hc43 => ?_)
    ·skip
     refine cw_region ?_; refine wl_callP1 (vs := [_]) Try.goes10 rfl (fail_ok 81) rfl ?_ ?_
     ·skip
      intro pv wp hpp; obtain ⟨rfl, hpw⟩ := hpp; have hno := none_of hc43; refine And.intro rfl ⟨_, rfl, _, ?_, rfl, (hE26).then hpw⟩
      by_cases hP : Pre (s.extract (st.pos + 2) k) (ByteArray.mk #[94])
      · have h9 := hcut.1.1 hP; rw [if_pos hP, hcut.2 h9.1] at hnm; subst hnm; exact it_cutN hh2 hk h9 hno
      · rw [if_neg hP] at hnm; subst hnm; exact it_namN hh2 hk (fun h => hP (hcut.1.2 h)) hno
     intro _ _ hF; exact hF.elim
    ·skip
     obtain ⟨S1, hS1'⟩ := some_of (by simpa using hc43); refine cw_skip (nrm_then ?_); refine cw_seq ?_; refine cw_region ?_; refine wl_m ?_; refine wl_val rfl (ex_nilCheck rfl) ?_; refine wl_val rfl (ex_fieldAddr rfl Try.fld41_1) ?_; refine wl_val rfl (ex_load1 rfl Try.agg3 (cell_nth hB27 rfl)) ?_; refine wl_m ?_; refine wl_val rfl (ex_add_i64 rfl rfl (by omega) (by omega)) ?_; refine wl_val rfl (ex_addE (r := ((k + 2 : Nat) : Int)) rfl rfl (by omega) (by omega) (by omega)) ?_; refine wl_val rfl (ex_nilCheck rfl) ?_; refine wl_val rfl (ex_fieldAddr rfl Try.fld41_1) ?_; refine wl_store1 rfl rfl (by first | rfl | assumption) Try.size3 hB27 rfl fun w31 hB32 hw33 => ?_; have hE34 := hE26.step hw33 (fun y hy => .inl hy); have hO35 := hO28.evo hw33 hap.symm.own1; have hO36 := hO1.evo hw33 hA23.symm.own1
     try simp only [List.setIfInBounds_toArray, List.set_cons_zero, List.set_cons_succ, Nat.reduceAdd, Nat.zero_add, Nat.add_zero] at hB32
     refine wl_nil (nrm_then ?_); refine cw_seq ?_; refine cw_seq ?_; refine cw_region ?_; refine wl_m ?_; refine wl_nil (nrm_then ?_); refine cw_if rfl (fun hc54 => ?_) (fun hc54 => ?_)
     ·skip
      refine cw_region ?_; refine wl_m ?_; refine wl_call1 (vs := [_]) Try.goes36 rfl (negated_ok hO36 hv1 (by omega) (hS1 S1 hS1')) rfl ?_; rintro rv w37 hR1; have hV9 := hE34; have hw38 := hR1.evo; have hE39 := hE34.then hw38; have hB40 := hw38.blk0 hB32; have hO41 := hO35.evo0 hw38; have hO42 := hO36.evo0 hw38; refine wl_a ?_; refine wl_nil (nrm_then ?_); refine cw_seq ?_; refine cw_region ?_; refine wl_m ?_; refine wl_a ?_; refine wl_nil (nrm_then ?_); refine cw_ret (ret_then (bodyp_ret (body_ret1 rfl rfl ?_))); have h9 := hcut.1.1 hc54; rw [if_pos hc54, hcut.2 h9.1] at hnm; subst hnm; exact ⟨_, _, it_cut hh2 hk h9 hS1', setOut_le (hR1.set hV9) (by omega), hE39, ⟨hB40, hO41, hR.ne⟩⟩
     ·skip
      refine cw_skip (nrm_then ?_); refine cw_seq ?_; refine cw_region ?_; refine wl_m ?_; refine wl_a ?_; refine wl_nil (nrm_then ?_); refine cw_ret (ret_then (bodyp_ret (body_ret1 rfl rfl ?_))); rw [if_neg hc54] at hnm; subst hnm; exact ⟨_, _, it_nam hh2 hk (fun h => hc54 (hcut.1.2 h)) hS1', ⟨_, _, _, _, rfl, hO36, hG25, hv1, hS1 S1 hS1', by omega⟩, hE34, ⟨hB32, hO35, hR.ne⟩⟩
   ·skip
    refine cw_skip (nrm_then ?_); refine cw_seq ?_; refine cw_seq ?_; refine cw_region ?_; refine wl_m ?_; refine wl_val rfl (ex_len_str rfl Try.underlying9 rfl) ?_; refine wl_val rfl (ex_gtr rfl rfl) ?_; refine wl_m ?_; refine wl_split (t := 61) rfl (fun hs61 => ?_) (fun hs61 => ?_)
    ·skip
     have e1 : sb (s.extract st.pos s.size) 1 = sb s (st.pos + 1) := sb_from (by omega); refine wl_g ?_; refine wl_m ?_; refine wl_g ?_; refine wl_val rfl (ex_sidxE (n := 0) rfl rfl Try.underlying9 rfl (by omega) e0) ?_; refine wl_g ?_; refine wl_val rfl (ex_eql rfl rfl) ?_; refine wl_pt ?_; refine wl_nil (nrm_then ?_); refine cw_if rfl (fun hc65 => ?_) (fun hc65 => ?_)
     ·skip
      refine cw_seq ?_; refine cw_region ?_; refine wl_m ?_; refine wl_val rfl (ex_sidxE (n := 1) rfl rfl Try.underlying9 rfl (by omega) e1) ?_; refine wl_call1 (vs := [_]) Try.goes38 rfl (letterSet_ok (sb s (st.pos + 1)) (sb_lt s _)) rfl ?_; rintro rv w43 ⟨hL, hw44⟩; obtain ⟨a1, c1, ob1, l1, rfl, hO1, hg1, hv1, hl1, hS1⟩ := hL.uni; have hA45 := Apart.fresh (Lt.blk hB14) hg1; have hA46 := Apart.fresh (Lt.own hO15) hg1; have hG47 := Ge.fresh hE13 hg1; have hE48 := hE13.then hw44; have hB49 := hw44.blk0 hB14; have hO50 := hO15.evo0 hw44; refine wl_m ?_; refine wl_val rfl (ex_extract rfl rfl) ?_; refine wl_val rfl (ex_extract rfl rfl) ?_; refine wl_a ?_; refine wl_a ?_; refine wl_nil (nrm_then ?_); refine cw_seq ?_; refine cw_region ?_; refine wl_m ?_; refine wl_nil (nrm_then ?_); refine cw_ifb rfl (fun hc72 => ?_) (fun hc72 => ?_)
      ·skip
       obtain ⟨S1, hS1'⟩ := some_of hc72; refine cw_seq ?_; refine cw_region ?_; refine wl_m ?_; refine wl_val rfl (ex_nilCheck rfl) ?_; refine wl_val rfl (ex_fieldAddr rfl Try.fld41_1) ?_; refine wl_val rfl (ex_load1 rfl Try.agg3 (cell_nth hB49 rfl)) ?_; refine wl_val rfl (ex_add_i64 rfl rfl (by omega) (by omega)) ?_; refine wl_val rfl (ex_nilCheck rfl) ?_; refine wl_val rfl (ex_fieldAddr rfl Try.fld41_1) ?_; refine wl_store1 rfl rfl (by first | rfl | assumption) Try.size3 hB49 rfl fun w51 hB52 hw53 => ?_; have hE54 := hE48.step hw53 (fun y hy => .inl hy); have hO55 := hO50.evo hw53 hap.symm.own1; have hO56 := hO1.evo hw53 hA45.symm.own1
       try simp only [List.setIfInBounds_toArray, List.set_cons_zero, List.set_cons_succ, Nat.reduceAdd, Nat.zero_add, Nat.add_zero] at hB52
       refine wl_nil (nrm_then ?_); refine cw_seq ?_; refine cw_region ?_; refine wl_m ?_; refine wl_a ?_; refine wl_nil (nrm_then ?_); refine cw_ret (ret_then (bodyp_ret (body_ret1 rfl rfl ?_))); exact ⟨_, _, (it_rest (fun _ => fnd_no hc28)).trans (it_let ⟨by omega, by omega⟩ hS1'), ⟨_, _, _, _, rfl, hO56, hG47, hv1, hS1 S1 hS1', by omega⟩, hE54, ⟨hB52, hO55, hR.ne⟩⟩
      ·skip
       refine cw_skip (nrm_then ?_); refine cw_seq ?_; refine cw_region ?_; refine wl_m ?_; refine wl_callP1 (vs := [_]) Try.goes47 rfl (single_ok ⟨hB49, hO50, hR.ne⟩ hs hlt hb) rfl ?_ ?_
       ·skip
        intro pv wp hpp; obtain ⟨hpe, rfl, hpw⟩ := hpp; exact And.intro rfl ⟨_, rfl, _, (it_rest (fun _ => fnd_no hc28)).trans ((it_rng (fun _ => none_of' hc72)).trans (rg_err hpe)), rfl, (hE48).step hpw (fun y hy => .inl hy)⟩
       rintro _ w57 ⟨lo, j, hx, rfl, hw58, hR3⟩; have hE59 := hE48.step hw58 (fun y hy => .inl hy); have hB60 := hO1.evo hw58 ((by first | exact hA45.symm.own1 | exact hA45.symm.nmem1)); obtain ⟨hbj, hij, hlo0, hlo1⟩ := pOne_b hx hb hlt; have hpj : (pset st j).pos = j := rfl; have hbjl := hbj.le; have hrs2 := sub_sz (s := s) (a := j) (Nat.le_refl s.size); refine wl_a ?_; refine wl_nil (nrm_then ?_); refine cw_seq ?_; refine cw_quiet (by kernel_rfl) (by kernel_rfl) ?_; refine ql_val rfl (fun _ hq62 => ex_move rfl) ?_; refine ql_val rfl (fun _ hq62 => ex_nilCheck rfl) ?_; refine ql_val rfl (fun _ hq62 => ex_fieldAddr rfl Try.fld41_0) ?_; refine ql_val rfl (fun _ hq62 => ex_load1 rfl Try.agg9 (cell_nth (hq62.blk0 hR3.blk) rfl)) ?_; refine ql_val rfl (fun _ hq62 => ex_move rfl) ?_; refine ql_val rfl (fun _ hq62 => ex_nilCheck rfl) ?_; refine ql_val rfl (fun _ hq62 => ex_fieldAddr rfl Try.fld41_1) ?_; refine ql_val rfl (fun _ hq62 => ex_load1 rfl Try.agg3 (cell_nth (hq62.blk0 hR3.blk) rfl)) ?_; refine ql_val rfl (fun _ hq62 => ex_ssubFrom (l := j) rfl rfl Try.underlying9 rfl hbj.le) ?_; refine ql_val rfl (fun _ hq62 => ex_assign rfl) ?_; refine ql_nil (fun wq61 hq62 => nrm_then ?_); have hE63 := hE59.then hq62; have hO64 := hB60.evo0 hq62; have hB65 := hq62.blk0 hR3.blk; have hO66 := hR3.own.evo0 hq62; refine cw_seq ?_; refine cw_seq ?_; refine cw_region ?_; refine wl_m ?_; refine wl_val rfl (ex_len_str rfl Try.underlying9 rfl) ?_; refine wl_val rfl (ex_lss rfl rfl) ?_; refine wl_m ?_; refine wl_split (t := 95) rfl (fun hs95 => ?_) (fun hs95 => ?_)
       ·skip
        refine wl_n ?_; refine wl_n ?_; refine wl_n ?_; refine wl_pt ?_; refine wl_m ?_; refine wl_n ?_; refine wl_n ?_; refine wl_n ?_; refine wl_pt ?_; refine wl_nil (nrm_then ?_); refine cw_true rfl ?_; refine cw_seq ?_; refine cw_region ?_; refine wl_m ?_; refine wl_m ?_; refine wl_bslice (vs := [_, _]) rfl Try.slice77 rfl rfl rfl rfl fun b67 w68 hO69 hs70 hw71 => ?_; have hA72 := Apart.new (Lt.own hO64) hs70; have hA73 := Apart.new (Lt.blk hB65) hs70; have hA74 := Apart.new (Lt.own hO66) hs70; have hG75 := Ge.new hE63 hs70; have hE76 := hE63.then hw71; have hO77 := hO64.evo0 hw71; have hB78 := hw71.blk0 hB65; have hO79 := hO66.evo0 hw71; refine wl_call1 (vs := [_]) Try.goes28 rfl (span_ok (es := [lo, lo]) hO69 (by simp)) rfl ?_; rintro _ w80 ⟨a1, c1, ob1, rfl, hO1, hg1, hw81⟩; have hA82 := Apart.fresh (Lt.own hO77) hg1; have hA83 := Apart.fresh (Lt.blk hB78) hg1; have hA84 := Apart.fresh (Lt.own hO79) hg1; have hA85 := Apart.fresh (Lt.own hO69) hg1; have hG86 := Ge.fresh hE76 hg1; have hE87 := hE76.then hw81; have hO88 := hO77.evo0 hw81; have hB89 := hw81.blk0 hB78; have hO90 := hO79.evo0 hw81; have hO91 := hO69.evo0 hw81; refine wl_a ?_; refine wl_nil (nrm_then ?_); refine cw_ret (ret_then (bodyp_ret (body_ret1 rfl rfl ?_)))
        exact ⟨_, _, (it_rest (fun _ => fnd_no hc28)).trans ((it_rng (fun _ => none_of' hc72)).trans (rg_one hx (by rintro ⟨⟨h1, h2⟩, h3, h4⟩; omega))), ⟨_, _, _, [(lo, lo)], rfl, hO1, hG86, (fun g hg => by rw [List.mem_singleton.1 hg]; exact ⟨hlo0, Int.le_refl _, hlo1⟩), rg_in lo lo, by simp⟩, hE87, ⟨hB89, hO90, hR.ne⟩⟩
       ·skip
        have f0 : sb (s.extract j s.size) 0 = sb s j := sb_from (by omega); have f1 : sb (s.extract j s.size) 1 = sb s (j + 1) := sb_from (by omega); refine wl_g ?_; refine wl_m ?_; refine wl_g ?_; refine wl_val rfl (ex_sidxE (n := 0) rfl rfl Try.underlying9 rfl (by omega) f0) ?_; refine wl_g ?_; refine wl_val rfl (ex_neq rfl rfl) ?_; refine wl_pf ?_; refine wl_m ?_; refine wl_split (t := 100) rfl (fun hs100 => ?_) (fun hs100 => ?_)
        ·skip
         refine wl_n ?_; refine wl_n ?_; refine wl_n ?_; refine wl_pt ?_; refine wl_nil (nrm_then ?_); refine cw_true rfl ?_; refine cw_seq ?_; refine cw_region ?_; refine wl_m ?_; refine wl_m ?_; refine wl_bslice (vs := [_, _]) rfl Try.slice77 rfl rfl rfl rfl fun b92 w93 hO94 hs95 hw96 => ?_; have hA97 := Apart.new (Lt.own hO64) hs95; have hA98 := Apart.new (Lt.blk hB65) hs95; have hA99 := Apart.new (Lt.own hO66) hs95; have hG100 := Ge.new hE63 hs95; have hE101 := hE63.then hw96; have hO102 := hO64.evo0 hw96; have hB103 := hw96.blk0 hB65; have hO104 := hO66.evo0 hw96; refine wl_call1 (vs := [_]) Try.goes28 rfl (span_ok (es := [lo, lo]) hO94 (by simp)) rfl ?_; rintro _ w105 ⟨a1, c1, ob1, rfl, hO1, hg1, hw106⟩; have hA107 := Apart.fresh (Lt.own hO102) hg1; have hA108 := Apart.fresh (Lt.blk hB103) hg1; have hA109 := Apart.fresh (Lt.own hO104) hg1; have hA110 := Apart.fresh (Lt.own hO94) hg1; have hG111 := Ge.fresh hE101 hg1; have hE112 := hE101.then hw106; have hO113 := hO102.evo0 hw106; have hB114 := hw106.blk0 hB103; have hO115 := hO104.evo0 hw106; have hO116 := hO94.evo0 hw106; refine wl_a ?_; refine wl_nil (nrm_then ?_); refine cw_ret (ret_then (bodyp_ret (body_ret1 rfl rfl ?_)))
         exact ⟨_, _, (it_rest (fun _ => fnd_no hc28)).trans ((it_rng (fun _ => none_of' hc72)).trans (rg_one hx (by rintro ⟨⟨h1, h2⟩, h3, h4⟩; omega))), ⟨_, _, _, [(lo, lo)], rfl, hO1, hG111, (fun g hg => by rw [List.mem_singleton.1 hg]; exact ⟨hlo0, Int.le_refl _, hlo1⟩), rg_in lo lo, by simp⟩, hE112, ⟨hB114, hO115, hR.ne⟩⟩
        ·skip
         refine wl_g ?_; refine wl_m ?_; refine wl_g ?_; refine wl_val rfl (ex_sidxE (n := 1) rfl rfl Try.underlying9 rfl (by omega) f1) ?_; refine wl_g ?_; refine wl_val rfl (ex_eql rfl rfl) ?_; refine wl_pf ?_; refine wl_nil (nrm_then ?_); refine cw_if rfl (fun hc104 => ?_) (fun hc104 => ?_)
         ·skip
          refine cw_seq ?_; refine cw_region ?_; refine wl_m ?_; refine wl_m ?_; refine wl_bslice (vs := [_, _]) rfl Try.slice77 rfl rfl rfl rfl fun b117 w118 hO119 hs120 hw121 => ?_; have hA122 := Apart.new (Lt.own hO64) hs120; have hA123 := Apart.new (Lt.blk hB65) hs120; have hA124 := Apart.new (Lt.own hO66) hs120; have hG125 := Ge.new hE63 hs120; have hE126 := hE63.then hw121; have hO127 := hO64.evo0 hw121; have hB128 := hw121.blk0 hB65; have hO129 := hO66.evo0 hw121; refine wl_call1 (vs := [_]) Try.goes28 rfl (span_ok (es := [lo, lo]) hO119 (by simp)) rfl ?_; rintro _ w130 ⟨a1, c1, ob1, rfl, hO1, hg1, hw131⟩; have hA132 := Apart.fresh (Lt.own hO127) hg1; have hA133 := Apart.fresh (Lt.blk hB128) hg1; have hA134 := Apart.fresh (Lt.own hO129) hg1; have hA135 := Apart.fresh (Lt.own hO119) hg1; have hG136 := Ge.fresh hE126 hg1; have hE137 := hE126.then hw131; have hO138 := hO127.evo0 hw131; have hB139 := hw131.blk0 hB128; have hO140 := hO129.evo0 hw131; have hO141 := hO119.evo0 hw131; refine wl_a ?_; refine wl_nil (nrm_then ?_); refine cw_ret (ret_then (bodyp_ret (body_ret1 rfl rfl ?_)))
          exact ⟨_, _, (it_rest (fun _ => fnd_no hc28)).trans ((it_rng (fun _ => none_of' hc72)).trans (rg_one hx (by rintro ⟨⟨h1, h2⟩, h3, h4⟩; omega))), ⟨_, _, _, [(lo, lo)], rfl, hO1, hG136, (fun g hg => by rw [List.mem_singleton.1 hg]; exact ⟨hlo0, Int.le_refl _, hlo1⟩), rg_in lo lo, by simp⟩, hE137, ⟨hB139, hO140, hR.ne⟩⟩
         ·skip
          have hdash : isB s j 45 ∧ j + 1 < s.size ∧ sb s (j + 1) ≠ 93 := ⟨⟨by omega, by omega⟩, by omega, by omega⟩; have hbj1 := hdash.1.asc (by decide) hbj; refine cw_skip (nrm_then ?_); refine cw_seq ?_; refine cw_region ?_; refine wl_m ?_; refine wl_val rfl (ex_nilCheck rfl) ?_; refine wl_val rfl (ex_fieldAddr rfl Try.fld41_1) ?_; refine wl_val rfl (ex_load1 rfl Try.agg3 (cell_nth hB65 rfl)) ?_; refine wl_val rfl (ex_add_i64 rfl rfl (by omega) (by omega)) ?_; refine wl_val rfl (ex_nilCheck rfl) ?_; refine wl_val rfl (ex_fieldAddr rfl Try.fld41_1) ?_; refine wl_store1 rfl rfl (by first | rfl | assumption) Try.size3 hB65 rfl fun w142 hB143 hw144 => ?_; have hE145 := hE63.step hw144 (fun y hy => .inl hy); have hO146 := hO64.evo hw144 hA45.symm.own1; have hO147 := hO66.evo hw144 hR3.ap.symm.own1
          try simp only [List.setIfInBounds_toArray, List.set_cons_zero, List.set_cons_succ, Nat.reduceAdd, Nat.zero_add, Nat.add_zero] at hB143
          refine wl_nil (nrm_then ?_); refine cw_seq ?_; refine cw_region ?_; refine wl_m ?_; refine wl_callP1 (vs := [_]) Try.goes47 rfl (single_ok (st := pset st (j + 1)) ⟨hB143, hO147, hR.ne⟩ hs hdash.2.1 hbj1) rfl ?_ ?_
          ·skip
           intro pv wp hpp; obtain ⟨hpe, rfl, hpw⟩ := hpp; exact And.intro rfl ⟨_, rfl, _, (it_rest (fun _ => fnd_no hc28)).trans ((it_rng (fun _ => none_of' hc72)).trans (rg_err2 hx hdash hpe)), rfl, (hE145).step hpw (fun y hy => .inl hy)⟩
          rintro _ w148 ⟨hi, m, hx2, rfl, hw149, hR4⟩; have hE150 := hE145.step hw149 (fun y hy => .inl hy); have hB151 := hO146.evo hw149 ((by first | exact hA45.symm.own1 | exact hA45.symm.nmem1)); obtain ⟨hbm, hjm, hhi0, hhi1⟩ := pOne_b hx2 hbj1 hdash.2.1; refine wl_a ?_; refine wl_nil (nrm_then ?_); refine cw_seq ?_; refine cw_seq ?_; refine cw_region ?_; refine wl_m ?_; refine wl_m ?_; refine wl_val rfl (ex_lss rfl rfl) ?_; refine wl_nil (nrm_then ?_); refine cw_if rfl (fun hc120 => ?_) (fun hc120 => ?_)
          ·skip
           refine cw_region ?_; refine wl_callP1 (vs := [_]) Try.goes10 rfl (fail_ok 81) rfl ?_ ?_
           ·skip
            intro pv wp hpp; obtain ⟨rfl, hpw⟩ := hpp; exact And.intro rfl ⟨_, rfl, _, (it_rest (fun _ => fnd_no hc28)).trans ((it_rng (fun _ => none_of' hc72)).trans (rg_bad hx hdash hx2 (by omega))), rfl, (hE150).then hpw⟩
           intro _ _ hF; exact hF.elim
          ·skip
           refine cw_skip (nrm_then ?_); refine cw_seq ?_; refine cw_region ?_; refine wl_m ?_; refine wl_m ?_; refine wl_bslice (vs := [_, _]) rfl Try.slice77 rfl rfl rfl rfl fun b154 w155 hO156 hs157 hw158 => ?_; have hA159 := Apart.new (Lt.own hB151) hs157; have hA160 := Apart.new (Lt.blk hR4.blk) hs157; have hA161 := Apart.new (Lt.own hR4.own) hs157; have hG162 := Ge.new hE150 hs157; have hE163 := hE150.then hw158; have hO164 := hB151.evo0 hw158; have hB165 := hw158.blk0 hR4.blk; have hO166 := hR4.own.evo0 hw158; refine wl_call1 (vs := [_]) Try.goes28 rfl (span_ok (es := [lo, hi]) hO156 (by simp)) rfl ?_; rintro _ w167 ⟨a1, c1, ob1, rfl, hO1, hg1, hw168⟩; have hA169 := Apart.fresh (Lt.own hO164) hg1; have hA170 := Apart.fresh (Lt.blk hB165) hg1; have hA171 := Apart.fresh (Lt.own hO166) hg1; have hA172 := Apart.fresh (Lt.own hO156) hg1; have hG173 := Ge.fresh hE163 hg1; have hE174 := hE163.then hw168; have hO175 := hO164.evo0 hw168; have hB176 := hw168.blk0 hB165; have hO177 := hO166.evo0 hw168; have hO178 := hO156.evo0 hw168; refine wl_a ?_; refine wl_nil (nrm_then ?_); refine cw_ret (bodyp_ret (body_ret1 rfl rfl ?_))
           exact ⟨_, _, (it_rest (fun _ => fnd_no hc28)).trans ((it_rng (fun _ => none_of' hc72)).trans (rg_two hx hdash hx2 (by omega))), ⟨_, _, _, [(lo, hi)], rfl, hO1, hG173, (fun g hg => by rw [List.mem_singleton.1 hg]; exact ⟨hlo0, by omega, hhi1⟩), rg_in lo hi, by simp⟩, hE174, ⟨hB176, hO177, hR.ne⟩⟩
     ·skip
      refine cw_skip (nrm_then ?_); refine cw_seq ?_; refine cw_region ?_; refine wl_m ?_; refine wl_callP1 (vs := [_]) Try.goes47 rfl (single_ok ⟨hB14, hO15, hR.ne⟩ hs hlt hb) rfl ?_ ?_
      ·skip
       intro pv wp hpp; obtain ⟨hpe, rfl, hpw⟩ := hpp; exact And.intro rfl ⟨_, rfl, _, (it_rest (fun _ => fnd_no hc28)).trans ((it_rng (fun h => by omega)).trans (rg_err hpe)), rfl, (hE13).step hpw (fun y hy => .inl hy)⟩
      rintro _ w179 ⟨lo, j, hx, rfl, hw180, hR3⟩; have hE181 := hE13.step hw180 (fun y hy => .inl hy); obtain ⟨hbj, hij, hlo0, hlo1⟩ := pOne_b hx hb hlt; have hpj : (pset st j).pos = j := rfl; have hbjl := hbj.le; have hrs2 := sub_sz (s := s) (a := j) (Nat.le_refl s.size); refine wl_a ?_; refine wl_nil (nrm_then ?_); refine cw_seq ?_; refine cw_quiet (by kernel_rfl) (by kernel_rfl) ?_; refine ql_val rfl (fun _ hq183 => ex_move rfl) ?_; refine ql_val rfl (fun _ hq183 => ex_nilCheck rfl) ?_; refine ql_val rfl (fun _ hq183 => ex_fieldAddr rfl Try.fld41_0) ?_; refine ql_val rfl (fun _ hq183 => ex_load1 rfl Try.agg9 (cell_nth (hq183.blk0 hR3.blk) rfl)) ?_; refine ql_val rfl (fun _ hq183 => ex_move rfl) ?_; refine ql_val rfl (fun _ hq183 => ex_nilCheck rfl) ?_; refine ql_val rfl (fun _ hq183 => ex_fieldAddr rfl Try.fld41_1) ?_; refine ql_val rfl (fun _ hq183 => ex_load1 rfl Try.agg3 (cell_nth (hq183.blk0 hR3.blk) rfl)) ?_; refine ql_val rfl (fun _ hq183 => ex_ssubFrom (l := j) rfl rfl Try.underlying9 rfl hbj.le) ?_; refine ql_val rfl (fun _ hq183 => ex_assign rfl) ?_; refine ql_nil (fun wq182 hq183 => nrm_then ?_); have hE184 := hE181.then hq183; have hB185 := hq183.blk0 hR3.blk; have hO186 := hR3.own.evo0 hq183; refine cw_seq ?_; refine cw_seq ?_; refine cw_region ?_; refine wl_m ?_; refine wl_val rfl (ex_len_str rfl Try.underlying9 rfl) ?_; refine wl_val rfl (ex_lss rfl rfl) ?_; refine wl_m ?_; refine wl_split (t := 95) rfl (fun hs95 => ?_) (fun hs95 => ?_)
      ·skip
       refine wl_n ?_; refine wl_n ?_; refine wl_n ?_; refine wl_pt ?_; refine wl_m ?_; refine wl_n ?_; refine wl_n ?_; refine wl_n ?_; refine wl_pt ?_; refine wl_nil (nrm_then ?_); refine cw_true rfl ?_; refine cw_seq ?_; refine cw_region ?_; refine wl_m ?_; refine wl_m ?_; refine wl_bslice (vs := [_, _]) rfl Try.slice77 rfl rfl rfl rfl fun b187 w188 hO189 hs190 hw191 => ?_; have hA192 := Apart.new (Lt.blk hB185) hs190; have hA193 := Apart.new (Lt.own hO186) hs190; have hG194 := Ge.new hE184 hs190; have hE195 := hE184.then hw191; have hB196 := hw191.blk0 hB185; have hO197 := hO186.evo0 hw191; refine wl_call1 (vs := [_]) Try.goes28 rfl (span_ok (es := [lo, lo]) hO189 (by simp)) rfl ?_; rintro _ w198 ⟨a1, c1, ob1, rfl, hO1, hg1, hw199⟩; have hA200 := Apart.fresh (Lt.blk hB196) hg1; have hA201 := Apart.fresh (Lt.own hO197) hg1; have hA202 := Apart.fresh (Lt.own hO189) hg1; have hG203 := Ge.fresh hE195 hg1; have hE204 := hE195.then hw199; have hB205 := hw199.blk0 hB196; have hO206 := hO197.evo0 hw199; have hO207 := hO189.evo0 hw199; refine wl_a ?_; refine wl_nil (nrm_then ?_); refine cw_ret (ret_then (bodyp_ret (body_ret1 rfl rfl ?_)))
       exact ⟨_, _, (it_rest (fun _ => fnd_no hc28)).trans ((it_rng (fun h => by omega)).trans (rg_one hx (by rintro ⟨⟨h1, h2⟩, h3, h4⟩; omega))), ⟨_, _, _, [(lo, lo)], rfl, hO1, hG203, (fun g hg => by rw [List.mem_singleton.1 hg]; exact ⟨hlo0, Int.le_refl _, hlo1⟩), rg_in lo lo, by simp⟩, hE204, ⟨hB205, hO206, hR.ne⟩⟩
      ·skip
       have f0 : sb (s.extract j s.size) 0 = sb s j := sb_from (by omega); have f1 : sb (s.extract j s.size) 1 = sb s (j + 1) := sb_from (by omega); refine wl_g ?_; refine wl_m ?_; refine wl_g ?_; refine wl_val rfl (ex_sidxE (n := 0) rfl rfl Try.underlying9 rfl (by omega) f0) ?_; refine wl_g ?_; refine wl_val rfl (ex_neq rfl rfl) ?_; refine wl_pf ?_; refine wl_m ?_; refine wl_split (t := 100) rfl (fun hs100 => ?_) (fun hs100 => ?_)
       ·skip
        refine wl_n ?_; refine wl_n ?_; refine wl_n ?_; refine wl_pt ?_; refine wl_nil (nrm_then ?_); refine cw_true rfl ?_; refine cw_seq ?_; refine cw_region ?_; refine wl_m ?_; refine wl_m ?_; refine wl_bslice (vs := [_, _]) rfl Try.slice77 rfl rfl rfl rfl fun b208 w209 hO210 hs211 hw212 => ?_; have hA213 := Apart.new (Lt.blk hB185) hs211; have hA214 := Apart.new (Lt.own hO186) hs211; have hG215 := Ge.new hE184 hs211; have hE216 := hE184.then hw212; have hB217 := hw212.blk0 hB185; have hO218 := hO186.evo0 hw212; refine wl_call1 (vs := [_]) Try.goes28 rfl (span_ok (es := [lo, lo]) hO210 (by simp)) rfl ?_; rintro _ w219 ⟨a1, c1, ob1, rfl, hO1, hg1, hw220⟩; have hA221 := Apart.fresh (Lt.blk hB217) hg1; have hA222 := Apart.fresh (Lt.own hO218) hg1; have hA223 := Apart.fresh (Lt.own hO210) hg1; have hG224 := Ge.fresh hE216 hg1; have hE225 := hE216.then hw220; have hB226 := hw220.blk0 hB217; have hO227 := hO218.evo0 hw220; have hO228 := hO210.evo0 hw220; refine wl_a ?_; refine wl_nil (nrm_then ?_); refine cw_ret (ret_then (bodyp_ret (body_ret1 rfl rfl ?_)))
        exact ⟨_, _, (it_rest (fun _ => fnd_no hc28)).trans ((it_rng (fun h => by omega)).trans (rg_one hx (by rintro ⟨⟨h1, h2⟩, h3, h4⟩; omega))), ⟨_, _, _, [(lo, lo)], rfl, hO1, hG224, (fun g hg => by rw [List.mem_singleton.1 hg]; exact ⟨hlo0, Int.le_refl _, hlo1⟩), rg_in lo lo, by simp⟩, hE225, ⟨hB226, hO227, hR.ne⟩⟩
       ·skip
        refine wl_g ?_; refine wl_m ?_; refine wl_g ?_; refine wl_val rfl (ex_sidxE (n := 1) rfl rfl Try.underlying9 rfl (by omega) f1) ?_; refine wl_g ?_; refine wl_val rfl (ex_eql rfl rfl) ?_; refine wl_pf ?_; refine wl_nil (nrm_then ?_); refine cw_if rfl (fun hc104 => ?_) (fun hc104 => ?_)
        ·skip
         refine cw_seq ?_; refine cw_region ?_; refine wl_m ?_; refine wl_m ?_; refine wl_bslice (vs := [_, _]) rfl Try.slice77 rfl rfl rfl rfl fun b229 w230 hO231 hs232 hw233 => ?_; have hA234 := Apart.new (Lt.blk hB185) hs232; have hA235 := Apart.new (Lt.own hO186) hs232; have hG236 := Ge.new hE184 hs232; have hE237 := hE184.then hw233; have hB238 := hw233.blk0 hB185; have hO239 := hO186.evo0 hw233; refine wl_call1 (vs := [_]) Try.goes28 rfl (span_ok (es := [lo, lo]) hO231 (by simp)) rfl ?_; rintro _ w240 ⟨a1, c1, ob1, rfl, hO1, hg1, hw241⟩; have hA242 := Apart.fresh (Lt.blk hB238) hg1; have hA243 := Apart.fresh (Lt.own hO239) hg1; have hA244 := Apart.fresh (Lt.own hO231) hg1; have hG245 := Ge.fresh hE237 hg1; have hE246 := hE237.then hw241; have hB247 := hw241.blk0 hB238; have hO248 := hO239.evo0 hw241; have hO249 := hO231.evo0 hw241; refine wl_a ?_; refine wl_nil (nrm_then ?_); refine cw_ret (ret_then (bodyp_ret (body_ret1 rfl rfl ?_)))
         exact ⟨_, _, (it_rest (fun _ => fnd_no hc28)).trans ((it_rng (fun h => by omega)).trans (rg_one hx (by rintro ⟨⟨h1, h2⟩, h3, h4⟩; omega))), ⟨_, _, _, [(lo, lo)], rfl, hO1, hG245, (fun g hg => by rw [List.mem_singleton.1 hg]; exact ⟨hlo0, Int.le_refl _, hlo1⟩), rg_in lo lo, by simp⟩, hE246, ⟨hB247, hO248, hR.ne⟩⟩
        ·skip
         have hdash : isB s j 45 ∧ j + 1 < s.size ∧ sb s (j + 1) ≠ 93 := ⟨⟨by omega, by omega⟩, by omega, by omega⟩; have hbj1 := hdash.1.asc (by decide) hbj; refine cw_skip (nrm_then ?_); refine cw_seq ?_; refine cw_region ?_; refine wl_m ?_; refine wl_val rfl (ex_nilCheck rfl) ?_; refine wl_val rfl (ex_fieldAddr rfl Try.fld41_1) ?_; refine wl_val rfl (ex_load1 rfl Try.agg3 (cell_nth hB185 rfl)) ?_; refine wl_val rfl (ex_add_i64 rfl rfl (by omega) (by omega)) ?_; refine wl_val rfl (ex_nilCheck rfl) ?_; refine wl_val rfl (ex_fieldAddr rfl Try.fld41_1) ?_; refine wl_store1 rfl rfl (by first | rfl | assumption) Try.size3 hB185 rfl fun w250 hB251 hw252 => ?_; have hE253 := hE184.step hw252 (fun y hy => .inl hy); have hO254 := hO186.evo hw252 hR3.ap.symm.own1
         try simp only [List.setIfInBounds_toArray, List.set_cons_zero, List.set_cons_succ, Nat.reduceAdd, Nat.zero_add, Nat.add_zero] at hB251
         refine wl_nil (nrm_then ?_); refine cw_seq ?_; refine cw_region ?_; refine wl_m ?_; refine wl_callP1 (vs := [_]) Try.goes47 rfl (single_ok (st := pset st (j + 1)) ⟨hB251, hO254, hR.ne⟩ hs hdash.2.1 hbj1) rfl ?_ ?_
         ·skip
          intro pv wp hpp; obtain ⟨hpe, rfl, hpw⟩ := hpp; exact And.intro rfl ⟨_, rfl, _, (it_rest (fun _ => fnd_no hc28)).trans ((it_rng (fun h => by omega)).trans (rg_err2 hx hdash hpe)), rfl, (hE253).step hpw (fun y hy => .inl hy)⟩
         rintro _ w255 ⟨hi, m, hx2, rfl, hw256, hR4⟩; have hE257 := hE253.step hw256 (fun y hy => .inl hy); obtain ⟨hbm, hjm, hhi0, hhi1⟩ := pOne_b hx2 hbj1 hdash.2.1; refine wl_a ?_; refine wl_nil (nrm_then ?_); refine cw_seq ?_; refine cw_seq ?_; refine cw_region ?_; refine wl_m ?_; refine wl_m ?_; refine wl_val rfl (ex_lss rfl rfl) ?_; refine wl_nil (nrm_then ?_); refine cw_if rfl (fun hc120 => ?_) (fun hc120 => ?_)
         ·skip
          refine cw_region ?_; refine wl_callP1 (vs := [_]) Try.goes10 rfl (fail_ok 81) rfl ?_ ?_
          ·skip
           intro pv wp hpp; obtain ⟨rfl, hpw⟩ := hpp; exact And.intro rfl ⟨_, rfl, _, (it_rest (fun _ => fnd_no hc28)).trans ((it_rng (fun h => by omega)).trans (rg_bad hx hdash hx2 (by omega))), rfl, (hE257).then hpw⟩
          intro _ _ hF; exact hF.elim
         ·skip
          refine cw_skip (nrm_then ?_); refine cw_seq ?_; refine cw_region ?_; refine wl_m ?_; refine wl_m ?_; refine wl_bslice (vs := [_, _]) rfl Try.slice77 rfl rfl rfl rfl fun b260 w261 hO262 hs263 hw264 => ?_; have hA265 := Apart.new (Lt.blk hR4.blk) hs263; have hA266 := Apart.new (Lt.own hR4.own) hs263; have hG267 := Ge.new hE257 hs263; have hE268 := hE257.then hw264; have hB269 := hw264.blk0 hR4.blk; have hO270 := hR4.own.evo0 hw264; refine wl_call1 (vs := [_]) Try.goes28 rfl (span_ok (es := [lo, hi]) hO262 (by simp)) rfl ?_; rintro _ w271 ⟨a1, c1, ob1, rfl, hO1, hg1, hw272⟩; have hA273 := Apart.fresh (Lt.blk hB269) hg1; have hA274 := Apart.fresh (Lt.own hO270) hg1; have hA275 := Apart.fresh (Lt.own hO262) hg1; have hG276 := Ge.fresh hE268 hg1; have hE277 := hE268.then hw272; have hB278 := hw272.blk0 hB269; have hO279 := hO270.evo0 hw272; have hO280 := hO262.evo0 hw272; refine wl_a ?_; refine wl_nil (nrm_then ?_); refine cw_ret (bodyp_ret (body_ret1 rfl rfl ?_))
          exact ⟨_, _, (it_rest (fun _ => fnd_no hc28)).trans ((it_rng (fun h => by omega)).trans (rg_two hx hdash hx2 (by omega))), ⟨_, _, _, [(lo, hi)], rfl, hO1, hG276, (fun g hg => by rw [List.mem_singleton.1 hg]; exact ⟨hlo0, by omega, hhi1⟩), rg_in lo hi, by simp⟩, hE277, ⟨hB278, hO279, hR.ne⟩⟩
    ·skip
     refine wl_n ?_; refine wl_n ?_; refine wl_n ?_; refine wl_pf ?_; refine wl_nil (nrm_then ?_); refine cw_false rfl ?_; refine cw_skip (nrm_then ?_); refine cw_seq ?_; refine cw_region ?_; refine wl_m ?_; refine wl_callP1 (vs := [_]) Try.goes47 rfl (single_ok ⟨hB14, hO15, hR.ne⟩ hs hlt hb) rfl ?_ ?_
     ·skip
      intro pv wp hpp; obtain ⟨hpe, rfl, hpw⟩ := hpp; exact And.intro rfl ⟨_, rfl, _, (it_rest (fun _ => fnd_no hc28)).trans ((it_rng (fun h => by omega)).trans (rg_err hpe)), rfl, (hE13).step hpw (fun y hy => .inl hy)⟩
     rintro _ w281 ⟨lo, j, hx, rfl, hw282, hR3⟩; have hE283 := hE13.step hw282 (fun y hy => .inl hy); obtain ⟨hbj, hij, hlo0, hlo1⟩ := pOne_b hx hb hlt; have hpj : (pset st j).pos = j := rfl; have hbjl := hbj.le; have hrs2 := sub_sz (s := s) (a := j) (Nat.le_refl s.size); refine wl_a ?_; refine wl_nil (nrm_then ?_); refine cw_seq ?_; refine cw_quiet (by kernel_rfl) (by kernel_rfl) ?_; refine ql_val rfl (fun _ hq285 => ex_move rfl) ?_; refine ql_val rfl (fun _ hq285 => ex_nilCheck rfl) ?_; refine ql_val rfl (fun _ hq285 => ex_fieldAddr rfl Try.fld41_0) ?_; refine ql_val rfl (fun _ hq285 => ex_load1 rfl Try.agg9 (cell_nth (hq285.blk0 hR3.blk) rfl)) ?_; refine ql_val rfl (fun _ hq285 => ex_move rfl) ?_; refine ql_val rfl (fun _ hq285 => ex_nilCheck rfl) ?_; refine ql_val rfl (fun _ hq285 => ex_fieldAddr rfl Try.fld41_1) ?_; refine ql_val rfl (fun _ hq285 => ex_load1 rfl Try.agg3 (cell_nth (hq285.blk0 hR3.blk) rfl)) ?_; refine ql_val rfl (fun _ hq285 => ex_ssubFrom (l := j) rfl rfl Try.underlying9 rfl hbj.le) ?_; refine ql_val rfl (fun _ hq285 => ex_assign rfl) ?_; refine ql_nil (fun wq284 hq285 => nrm_then ?_); have hE286 := hE283.then hq285; have hB287 := hq285.blk0 hR3.blk; have hO288 := hR3.own.evo0 hq285; refine cw_seq ?_; refine cw_seq ?_; refine cw_region ?_; refine wl_m ?_; refine wl_val rfl (ex_len_str rfl Try.underlying9 rfl) ?_; refine wl_val rfl (ex_lss rfl rfl) ?_; refine wl_m ?_; refine wl_split (t := 95) rfl (fun hs95 => ?_) (fun hs95 => ?_)
     ·skip
      refine wl_n ?_; refine wl_n ?_; refine wl_n ?_; refine wl_pt ?_; refine wl_m ?_; refine wl_n ?_; refine wl_n ?_; refine wl_n ?_; refine wl_pt ?_; refine wl_nil (nrm_then ?_); refine cw_true rfl ?_; refine cw_seq ?_; refine cw_region ?_; refine wl_m ?_; refine wl_m ?_; refine wl_bslice (vs := [_, _]) rfl Try.slice77 rfl rfl rfl rfl fun b289 w290 hO291 hs292 hw293 => ?_; have hA294 := Apart.new (Lt.blk hB287) hs292; have hA295 := Apart.new (Lt.own hO288) hs292; have hG296 := Ge.new hE286 hs292; have hE297 := hE286.then hw293; have hB298 := hw293.blk0 hB287; have hO299 := hO288.evo0 hw293; refine wl_call1 (vs := [_]) Try.goes28 rfl (span_ok (es := [lo, lo]) hO291 (by simp)) rfl ?_; rintro _ w300 ⟨a1, c1, ob1, rfl, hO1, hg1, hw301⟩; have hA302 := Apart.fresh (Lt.blk hB298) hg1; have hA303 := Apart.fresh (Lt.own hO299) hg1; have hA304 := Apart.fresh (Lt.own hO291) hg1; have hG305 := Ge.fresh hE297 hg1; have hE306 := hE297.then hw301; have hB307 := hw301.blk0 hB298; have hO308 := hO299.evo0 hw301; have hO309 := hO291.evo0 hw301; refine wl_a ?_; refine wl_nil (nrm_then ?_); refine cw_ret (ret_then (bodyp_ret (body_ret1 rfl rfl ?_)))
      exact ⟨_, _, (it_rest (fun _ => fnd_no hc28)).trans ((it_rng (fun h => by omega)).trans (rg_one hx (by rintro ⟨⟨h1, h2⟩, h3, h4⟩; omega))), ⟨_, _, _, [(lo, lo)], rfl, hO1, hG305, (fun g hg => by rw [List.mem_singleton.1 hg]; exact ⟨hlo0, Int.le_refl _, hlo1⟩), rg_in lo lo, by simp⟩, hE306, ⟨hB307, hO308, hR.ne⟩⟩
     ·skip
      have f0 : sb (s.extract j s.size) 0 = sb s j := sb_from (by omega); have f1 : sb (s.extract j s.size) 1 = sb s (j + 1) := sb_from (by omega); refine wl_g ?_; refine wl_m ?_; refine wl_g ?_; refine wl_val rfl (ex_sidxE (n := 0) rfl rfl Try.underlying9 rfl (by omega) f0) ?_; refine wl_g ?_; refine wl_val rfl (ex_neq rfl rfl) ?_; refine wl_pf ?_; refine wl_m ?_; refine wl_split (t := 100) rfl (fun hs100 => ?_) (fun hs100 => ?_)
      ·skip
       refine wl_n ?_; refine wl_n ?_; refine wl_n ?_; refine wl_pt ?_; refine wl_nil (nrm_then ?_); refine cw_true rfl ?_; refine cw_seq ?_; refine cw_region ?_; refine wl_m ?_; refine wl_m ?_; refine wl_bslice (vs := [_, _]) rfl Try.slice77 rfl rfl rfl rfl fun b310 w311 hO312 hs313 hw314 => ?_; have hA315 := Apart.new (Lt.blk hB287) hs313; have hA316 := Apart.new (Lt.own hO288) hs313; have hG317 := Ge.new hE286 hs313; have hE318 := hE286.then hw314; have hB319 := hw314.blk0 hB287; have hO320 := hO288.evo0 hw314; refine wl_call1 (vs := [_]) Try.goes28 rfl (span_ok (es := [lo, lo]) hO312 (by simp)) rfl ?_; rintro _ w321 ⟨a1, c1, ob1, rfl, hO1, hg1, hw322⟩; have hA323 := Apart.fresh (Lt.blk hB319) hg1; have hA324 := Apart.fresh (Lt.own hO320) hg1; have hA325 := Apart.fresh (Lt.own hO312) hg1; have hG326 := Ge.fresh hE318 hg1; have hE327 := hE318.then hw322; have hB328 := hw322.blk0 hB319; have hO329 := hO320.evo0 hw322; have hO330 := hO312.evo0 hw322; refine wl_a ?_; refine wl_nil (nrm_then ?_); refine cw_ret (ret_then (bodyp_ret (body_ret1 rfl rfl ?_)))
       exact ⟨_, _, (it_rest (fun _ => fnd_no hc28)).trans ((it_rng (fun h => by omega)).trans (rg_one hx (by rintro ⟨⟨h1, h2⟩, h3, h4⟩; omega))), ⟨_, _, _, [(lo, lo)], rfl, hO1, hG326, (fun g hg => by rw [List.mem_singleton.1 hg]; exact ⟨hlo0, Int.le_refl _, hlo1⟩), rg_in lo lo, by simp⟩, hE327, ⟨hB328, hO329, hR.ne⟩⟩
      ·skip
       refine wl_g ?_; refine wl_m ?_; refine wl_g ?_; refine wl_val rfl (ex_sidxE (n := 1) rfl rfl Try.underlying9 rfl (by omega) f1) ?_; refine wl_g ?_; refine wl_val rfl (ex_eql rfl rfl) ?_; refine wl_pf ?_; refine wl_nil (nrm_then ?_); refine cw_if rfl (fun hc104 => ?_) (fun hc104 => ?_)
       ·skip
        refine cw_seq ?_; refine cw_region ?_; refine wl_m ?_; refine wl_m ?_; refine wl_bslice (vs := [_, _]) rfl Try.slice77 rfl rfl rfl rfl fun b331 w332 hO333 hs334 hw335 => ?_; have hA336 := Apart.new (Lt.blk hB287) hs334; have hA337 := Apart.new (Lt.own hO288) hs334; have hG338 := Ge.new hE286 hs334; have hE339 := hE286.then hw335; have hB340 := hw335.blk0 hB287; have hO341 := hO288.evo0 hw335; refine wl_call1 (vs := [_]) Try.goes28 rfl (span_ok (es := [lo, lo]) hO333 (by simp)) rfl ?_; rintro _ w342 ⟨a1, c1, ob1, rfl, hO1, hg1, hw343⟩; have hA344 := Apart.fresh (Lt.blk hB340) hg1; have hA345 := Apart.fresh (Lt.own hO341) hg1; have hA346 := Apart.fresh (Lt.own hO333) hg1; have hG347 := Ge.fresh hE339 hg1; have hE348 := hE339.then hw343; have hB349 := hw343.blk0 hB340; have hO350 := hO341.evo0 hw343; have hO351 := hO333.evo0 hw343; refine wl_a ?_; refine wl_nil (nrm_then ?_); refine cw_ret (ret_then (bodyp_ret (body_ret1 rfl rfl ?_)))
        exact ⟨_, _, (it_rest (fun _ => fnd_no hc28)).trans ((it_rng (fun h => by omega)).trans (rg_one hx (by rintro ⟨⟨h1, h2⟩, h3, h4⟩; omega))), ⟨_, _, _, [(lo, lo)], rfl, hO1, hG347, (fun g hg => by rw [List.mem_singleton.1 hg]; exact ⟨hlo0, Int.le_refl _, hlo1⟩), rg_in lo lo, by simp⟩, hE348, ⟨hB349, hO350, hR.ne⟩⟩
       ·skip
        have hdash : isB s j 45 ∧ j + 1 < s.size ∧ sb s (j + 1) ≠ 93 := ⟨⟨by omega, by omega⟩, by omega, by omega⟩; have hbj1 := hdash.1.asc (by decide) hbj; refine cw_skip (nrm_then ?_); refine cw_seq ?_; refine cw_region ?_; refine wl_m ?_; refine wl_val rfl (ex_nilCheck rfl) ?_; refine wl_val rfl (ex_fieldAddr rfl Try.fld41_1) ?_; refine wl_val rfl (ex_load1 rfl Try.agg3 (cell_nth hB287 rfl)) ?_; refine wl_val rfl (ex_add_i64 rfl rfl (by omega) (by omega)) ?_; refine wl_val rfl (ex_nilCheck rfl) ?_; refine wl_val rfl (ex_fieldAddr rfl Try.fld41_1) ?_; refine wl_store1 rfl rfl (by first | rfl | assumption) Try.size3 hB287 rfl fun w352 hB353 hw354 => ?_; have hE355 := hE286.step hw354 (fun y hy => .inl hy); have hO356 := hO288.evo hw354 hR3.ap.symm.own1
        try simp only [List.setIfInBounds_toArray, List.set_cons_zero, List.set_cons_succ, Nat.reduceAdd, Nat.zero_add, Nat.add_zero] at hB353
        refine wl_nil (nrm_then ?_); refine cw_seq ?_; refine cw_region ?_; refine wl_m ?_; refine wl_callP1 (vs := [_]) Try.goes47 rfl (single_ok (st := pset st (j + 1)) ⟨hB353, hO356, hR.ne⟩ hs hdash.2.1 hbj1) rfl ?_ ?_
        ·skip
         intro pv wp hpp; obtain ⟨hpe, rfl, hpw⟩ := hpp; exact And.intro rfl ⟨_, rfl, _, (it_rest (fun _ => fnd_no hc28)).trans ((it_rng (fun h => by omega)).trans (rg_err2 hx hdash hpe)), rfl, (hE355).step hpw (fun y hy => .inl hy)⟩
        rintro _ w357 ⟨hi, m, hx2, rfl, hw358, hR4⟩; have hE359 := hE355.step hw358 (fun y hy => .inl hy); obtain ⟨hbm, hjm, hhi0, hhi1⟩ := pOne_b hx2 hbj1 hdash.2.1; refine wl_a ?_; refine wl_nil (nrm_then ?_); refine cw_seq ?_; refine cw_seq ?_; refine cw_region ?_; refine wl_m ?_; refine wl_m ?_; refine wl_val rfl (ex_lss rfl rfl) ?_; refine wl_nil (nrm_then ?_); refine cw_if rfl (fun hc120 => ?_) (fun hc120 => ?_)
        ·skip
         refine cw_region ?_; refine wl_callP1 (vs := [_]) Try.goes10 rfl (fail_ok 81) rfl ?_ ?_
         ·skip
          intro pv wp hpp; obtain ⟨rfl, hpw⟩ := hpp; exact And.intro rfl ⟨_, rfl, _, (it_rest (fun _ => fnd_no hc28)).trans ((it_rng (fun h => by omega)).trans (rg_bad hx hdash hx2 (by omega))), rfl, (hE359).then hpw⟩
         intro _ _ hF; exact hF.elim
        ·skip
         refine cw_skip (nrm_then ?_); refine cw_seq ?_; refine cw_region ?_; refine wl_m ?_; refine wl_m ?_; refine wl_bslice (vs := [_, _]) rfl Try.slice77 rfl rfl rfl rfl fun b362 w363 hO364 hs365 hw366 => ?_; have hA367 := Apart.new (Lt.blk hR4.blk) hs365; have hA368 := Apart.new (Lt.own hR4.own) hs365; have hG369 := Ge.new hE359 hs365; have hE370 := hE359.then hw366; have hB371 := hw366.blk0 hR4.blk; have hO372 := hR4.own.evo0 hw366; refine wl_call1 (vs := [_]) Try.goes28 rfl (span_ok (es := [lo, hi]) hO364 (by simp)) rfl ?_; rintro _ w373 ⟨a1, c1, ob1, rfl, hO1, hg1, hw374⟩; have hA375 := Apart.fresh (Lt.blk hB371) hg1; have hA376 := Apart.fresh (Lt.own hO372) hg1; have hA377 := Apart.fresh (Lt.own hO364) hg1; have hG378 := Ge.fresh hE370 hg1; have hE379 := hE370.then hw374; have hB380 := hw374.blk0 hB371; have hO381 := hO372.evo0 hw374; have hO382 := hO364.evo0 hw374; refine wl_a ?_; refine wl_nil (nrm_then ?_); refine cw_ret (bodyp_ret (body_ret1 rfl rfl ?_))
         exact ⟨_, _, (it_rest (fun _ => fnd_no hc28)).trans ((it_rng (fun h => by omega)).trans (rg_two hx hdash hx2 (by omega))), ⟨_, _, _, [(lo, hi)], rfl, hO1, hG378, (fun g hg => by rw [List.mem_singleton.1 hg]; exact ⟨hlo0, by omega, hhi1⟩), rg_in lo hi, by simp⟩, hE379, ⟨hB380, hO381, hR.ne⟩⟩
  ·skip
   refine cw_skip (nrm_then ?_); refine cw_seq ?_; refine cw_seq ?_; refine cw_region ?_; refine wl_m ?_; refine wl_val rfl (ex_len_str rfl Try.underlying9 rfl) ?_; refine wl_val rfl (ex_gtr rfl rfl) ?_; refine wl_m ?_; refine wl_split (t := 61) rfl (fun hs61 => ?_) (fun hs61 => ?_)
   ·skip
    have e1 : sb (s.extract st.pos s.size) 1 = sb s (st.pos + 1) := sb_from (by omega); refine wl_g ?_; refine wl_m ?_; refine wl_g ?_; refine wl_val rfl (ex_sidxE (n := 0) rfl rfl Try.underlying9 rfl (by omega) e0) ?_; refine wl_g ?_; refine wl_val rfl (ex_eql rfl rfl) ?_; refine wl_pt ?_; refine wl_nil (nrm_then ?_); refine cw_if rfl (fun hc65 => ?_) (fun hc65 => ?_)
    ·skip
     refine cw_seq ?_; refine cw_region ?_; refine wl_m ?_; refine wl_val rfl (ex_sidxE (n := 1) rfl rfl Try.underlying9 rfl (by omega) e1) ?_; refine wl_call1 (vs := [_]) Try.goes38 rfl (letterSet_ok (sb s (st.pos + 1)) (sb_lt s _)) rfl ?_; rintro rv w383 ⟨hL, hw384⟩; obtain ⟨a1, c1, ob1, l1, rfl, hO1, hg1, hv1, hl1, hS1⟩ := hL.uni; have hA385 := Apart.fresh (Lt.blk hB9) hg1; have hA386 := Apart.fresh (Lt.own hO10) hg1; have hG387 := Ge.fresh hE8 hg1; have hE388 := hE8.then hw384; have hB389 := hw384.blk0 hB9; have hO390 := hO10.evo0 hw384; refine wl_m ?_; refine wl_val rfl (ex_extract rfl rfl) ?_; refine wl_val rfl (ex_extract rfl rfl) ?_; refine wl_a ?_; refine wl_a ?_; refine wl_nil (nrm_then ?_); refine cw_seq ?_; refine cw_region ?_; refine wl_m ?_; refine wl_nil (nrm_then ?_); refine cw_ifb rfl (fun hc72 => ?_) (fun hc72 => ?_)
     ·skip
      obtain ⟨S1, hS1'⟩ := some_of hc72; refine cw_seq ?_; refine cw_region ?_; refine wl_m ?_; refine wl_val rfl (ex_nilCheck rfl) ?_; refine wl_val rfl (ex_fieldAddr rfl Try.fld41_1) ?_; refine wl_val rfl (ex_load1 rfl Try.agg3 (cell_nth hB389 rfl)) ?_; refine wl_val rfl (ex_add_i64 rfl rfl (by omega) (by omega)) ?_; refine wl_val rfl (ex_nilCheck rfl) ?_; refine wl_val rfl (ex_fieldAddr rfl Try.fld41_1) ?_; refine wl_store1 rfl rfl (by first | rfl | assumption) Try.size3 hB389 rfl fun w391 hB392 hw393 => ?_; have hE394 := hE388.step hw393 (fun y hy => .inl hy); have hO395 := hO390.evo hw393 hap.symm.own1; have hO396 := hO1.evo hw393 hA385.symm.own1
      try simp only [List.setIfInBounds_toArray, List.set_cons_zero, List.set_cons_succ, Nat.reduceAdd, Nat.zero_add, Nat.add_zero] at hB392
      refine wl_nil (nrm_then ?_); refine cw_seq ?_; refine cw_region ?_; refine wl_m ?_; refine wl_a ?_; refine wl_nil (nrm_then ?_); refine cw_ret (ret_then (bodyp_ret (body_ret1 rfl rfl ?_))); exact ⟨_, _, (it_rest (fun h => absurd ((pre2 hle).2 h) hc23)).trans (it_let ⟨by omega, by omega⟩ hS1'), ⟨_, _, _, _, rfl, hO396, hG387, hv1, hS1 S1 hS1', by omega⟩, hE394, ⟨hB392, hO395, hR.ne⟩⟩
     ·skip
      refine cw_skip (nrm_then ?_); refine cw_seq ?_; refine cw_region ?_; refine wl_m ?_; refine wl_callP1 (vs := [_]) Try.goes47 rfl (single_ok ⟨hB389, hO390, hR.ne⟩ hs hlt hb) rfl ?_ ?_
      ·skip
       intro pv wp hpp; obtain ⟨hpe, rfl, hpw⟩ := hpp; exact And.intro rfl ⟨_, rfl, _, (it_rest (fun h => absurd ((pre2 hle).2 h) hc23)).trans ((it_rng (fun _ => none_of' hc72)).trans (rg_err hpe)), rfl, (hE388).step hpw (fun y hy => .inl hy)⟩
      rintro _ w397 ⟨lo, j, hx, rfl, hw398, hR3⟩; have hE399 := hE388.step hw398 (fun y hy => .inl hy); have hB400 := hO1.evo hw398 ((by first | exact hA385.symm.own1 | exact hA385.symm.nmem1)); obtain ⟨hbj, hij, hlo0, hlo1⟩ := pOne_b hx hb hlt; have hpj : (pset st j).pos = j := rfl; have hbjl := hbj.le; have hrs2 := sub_sz (s := s) (a := j) (Nat.le_refl s.size); refine wl_a ?_; refine wl_nil (nrm_then ?_); refine cw_seq ?_; refine cw_quiet (by kernel_rfl) (by kernel_rfl) ?_; refine ql_val rfl (fun _ hq402 => ex_move rfl) ?_; refine ql_val rfl (fun _ hq402 => ex_nilCheck rfl) ?_; refine ql_val rfl (fun _ hq402 => ex_fieldAddr rfl Try.fld41_0) ?_; refine ql_val rfl (fun _ hq402 => ex_load1 rfl Try.agg9 (cell_nth (hq402.blk0 hR3.blk) rfl)) ?_; refine ql_val rfl (fun _ hq402 => ex_move rfl) ?_; refine ql_val rfl (fun _ hq402 => ex_nilCheck rfl) ?_; refine ql_val rfl (fun _ hq402 => ex_fieldAddr rfl Try.fld41_1) ?_; refine ql_val rfl (fun _ hq402 => ex_load1 rfl Try.agg3 (cell_nth (hq402.blk0 hR3.blk) rfl)) ?_; refine ql_val rfl (fun _ hq402 => ex_ssubFrom (l := j) rfl rfl Try.underlying9 rfl hbj.le) ?_; refine ql_val rfl (fun _ hq402 => ex_assign rfl) ?_; refine ql_nil (fun wq401 hq402 => nrm_then ?_); have hE403 := hE399.then hq402; have hO404 := hB400.evo0 hq402; have hB405 := hq402.blk0 hR3.blk; have hO406 := hR3.own.evo0 hq402; refine cw_seq ?_; refine cw_seq ?_; refine cw_region ?_; refine wl_m ?_; refine wl_val rfl (ex_len_str rfl Try.underlying9 rfl) ?_; refine wl_val rfl (ex_lss rfl rfl) ?_; refine wl_m ?_; refine wl_split (t := 95) rfl (fun hs95 => ?_) (fun hs95 => ?_)
      ·skip
       refine wl_n ?_; refine wl_n ?_; refine wl_n ?_; refine wl_pt ?_; refine wl_m ?_; refine wl_n ?_; refine wl_n ?_; refine wl_n ?_; refine wl_pt ?_; refine wl_nil (nrm_then ?_); refine cw_true rfl ?_; refine cw_seq ?_; refine cw_region ?_; refine wl_m ?_; refine wl_m ?_; refine wl_bslice (vs := [_, _]) rfl Try.slice77 rfl rfl rfl rfl fun b407 w408 hO409 hs410 hw411 => ?_; have hA412 := Apart.new (Lt.own hO404) hs410; have hA413 := Apart.new (Lt.blk hB405) hs410; have hA414 := Apart.new (Lt.own hO406) hs410; have hG415 := Ge.new hE403 hs410; have hE416 := hE403.then hw411; have hO417 := hO404.evo0 hw411; have hB418 := hw411.blk0 hB405; have hO419 := hO406.evo0 hw411; refine wl_call1 (vs := [_]) Try.goes28 rfl (span_ok (es := [lo, lo]) hO409 (by simp)) rfl ?_; rintro _ w420 ⟨a1, c1, ob1, rfl, hO1, hg1, hw421⟩; have hA422 := Apart.fresh (Lt.own hO417) hg1; have hA423 := Apart.fresh (Lt.blk hB418) hg1; have hA424 := Apart.fresh (Lt.own hO419) hg1; have hA425 := Apart.fresh (Lt.own hO409) hg1; have hG426 := Ge.fresh hE416 hg1; have hE427 := hE416.then hw421; have hO428 := hO417.evo0 hw421; have hB429 := hw421.blk0 hB418; have hO430 := hO419.evo0 hw421; have hO431 := hO409.evo0 hw421; refine wl_a ?_; refine wl_nil (nrm_then ?_); refine cw_ret (ret_then (bodyp_ret (body_ret1 rfl rfl ?_)))
       exact ⟨_, _, (it_rest (fun h => absurd ((pre2 hle).2 h) hc23)).trans ((it_rng (fun _ => none_of' hc72)).trans (rg_one hx (by rintro ⟨⟨h1, h2⟩, h3, h4⟩; omega))), ⟨_, _, _, [(lo, lo)], rfl, hO1, hG426, (fun g hg => by rw [List.mem_singleton.1 hg]; exact ⟨hlo0, Int.le_refl _, hlo1⟩), rg_in lo lo, by simp⟩, hE427, ⟨hB429, hO430, hR.ne⟩⟩
      ·skip
       have f0 : sb (s.extract j s.size) 0 = sb s j := sb_from (by omega); have f1 : sb (s.extract j s.size) 1 = sb s (j + 1) := sb_from (by omega); refine wl_g ?_; refine wl_m ?_; refine wl_g ?_; refine wl_val rfl (ex_sidxE (n := 0) rfl rfl Try.underlying9 rfl (by omega) f0) ?_; refine wl_g ?_; refine wl_val rfl (ex_neq rfl rfl) ?_; refine wl_pf ?_; refine wl_m ?_; refine wl_split (t := 100) rfl (fun hs100 => ?_) (fun hs100 => ?_)
       ·skip
        refine wl_n ?_; refine wl_n ?_; refine wl_n ?_; refine wl_pt ?_; refine wl_nil (nrm_then ?_); refine cw_true rfl ?_; refine cw_seq ?_; refine cw_region ?_; refine wl_m ?_; refine wl_m ?_; refine wl_bslice (vs := [_, _]) rfl Try.slice77 rfl rfl rfl rfl fun b432 w433 hO434 hs435 hw436 => ?_; have hA437 := Apart.new (Lt.own hO404) hs435; have hA438 := Apart.new (Lt.blk hB405) hs435; have hA439 := Apart.new (Lt.own hO406) hs435; have hG440 := Ge.new hE403 hs435; have hE441 := hE403.then hw436; have hO442 := hO404.evo0 hw436; have hB443 := hw436.blk0 hB405; have hO444 := hO406.evo0 hw436; refine wl_call1 (vs := [_]) Try.goes28 rfl (span_ok (es := [lo, lo]) hO434 (by simp)) rfl ?_; rintro _ w445 ⟨a1, c1, ob1, rfl, hO1, hg1, hw446⟩; have hA447 := Apart.fresh (Lt.own hO442) hg1; have hA448 := Apart.fresh (Lt.blk hB443) hg1; have hA449 := Apart.fresh (Lt.own hO444) hg1; have hA450 := Apart.fresh (Lt.own hO434) hg1; have hG451 := Ge.fresh hE441 hg1; have hE452 := hE441.then hw446; have hO453 := hO442.evo0 hw446; have hB454 := hw446.blk0 hB443; have hO455 := hO444.evo0 hw446; have hO456 := hO434.evo0 hw446; refine wl_a ?_; refine wl_nil (nrm_then ?_); refine cw_ret (ret_then (bodyp_ret (body_ret1 rfl rfl ?_)))
        exact ⟨_, _, (it_rest (fun h => absurd ((pre2 hle).2 h) hc23)).trans ((it_rng (fun _ => none_of' hc72)).trans (rg_one hx (by rintro ⟨⟨h1, h2⟩, h3, h4⟩; omega))), ⟨_, _, _, [(lo, lo)], rfl, hO1, hG451, (fun g hg => by rw [List.mem_singleton.1 hg]; exact ⟨hlo0, Int.le_refl _, hlo1⟩), rg_in lo lo, by simp⟩, hE452, ⟨hB454, hO455, hR.ne⟩⟩
       ·skip
        refine wl_g ?_; refine wl_m ?_; refine wl_g ?_; refine wl_val rfl (ex_sidxE (n := 1) rfl rfl Try.underlying9 rfl (by omega) f1) ?_; refine wl_g ?_; refine wl_val rfl (ex_eql rfl rfl) ?_; refine wl_pf ?_; refine wl_nil (nrm_then ?_); refine cw_if rfl (fun hc104 => ?_) (fun hc104 => ?_)
        ·skip
         refine cw_seq ?_; refine cw_region ?_; refine wl_m ?_; refine wl_m ?_; refine wl_bslice (vs := [_, _]) rfl Try.slice77 rfl rfl rfl rfl fun b457 w458 hO459 hs460 hw461 => ?_; have hA462 := Apart.new (Lt.own hO404) hs460; have hA463 := Apart.new (Lt.blk hB405) hs460; have hA464 := Apart.new (Lt.own hO406) hs460; have hG465 := Ge.new hE403 hs460; have hE466 := hE403.then hw461; have hO467 := hO404.evo0 hw461; have hB468 := hw461.blk0 hB405; have hO469 := hO406.evo0 hw461; refine wl_call1 (vs := [_]) Try.goes28 rfl (span_ok (es := [lo, lo]) hO459 (by simp)) rfl ?_; rintro _ w470 ⟨a1, c1, ob1, rfl, hO1, hg1, hw471⟩; have hA472 := Apart.fresh (Lt.own hO467) hg1; have hA473 := Apart.fresh (Lt.blk hB468) hg1; have hA474 := Apart.fresh (Lt.own hO469) hg1; have hA475 := Apart.fresh (Lt.own hO459) hg1; have hG476 := Ge.fresh hE466 hg1; have hE477 := hE466.then hw471; have hO478 := hO467.evo0 hw471; have hB479 := hw471.blk0 hB468; have hO480 := hO469.evo0 hw471; have hO481 := hO459.evo0 hw471; refine wl_a ?_; refine wl_nil (nrm_then ?_); refine cw_ret (ret_then (bodyp_ret (body_ret1 rfl rfl ?_)))
         exact ⟨_, _, (it_rest (fun h => absurd ((pre2 hle).2 h) hc23)).trans ((it_rng (fun _ => none_of' hc72)).trans (rg_one hx (by rintro ⟨⟨h1, h2⟩, h3, h4⟩; omega))), ⟨_, _, _, [(lo, lo)], rfl, hO1, hG476, (fun g hg => by rw [List.mem_singleton.1 hg]; exact ⟨hlo0, Int.le_refl _, hlo1⟩), rg_in lo lo, by simp⟩, hE477, ⟨hB479, hO480, hR.ne⟩⟩
        ·skip
         have hdash : isB s j 45 ∧ j + 1 < s.size ∧ sb s (j + 1) ≠ 93 := ⟨⟨by omega, by omega⟩, by omega, by omega⟩; have hbj1 := hdash.1.asc (by decide) hbj; refine cw_skip (nrm_then ?_); refine cw_seq ?_; refine cw_region ?_; refine wl_m ?_; refine wl_val rfl (ex_nilCheck rfl) ?_; refine wl_val rfl (ex_fieldAddr rfl Try.fld41_1) ?_; refine wl_val rfl (ex_load1 rfl Try.agg3 (cell_nth hB405 rfl)) ?_; refine wl_val rfl (ex_add_i64 rfl rfl (by omega) (by omega)) ?_; refine wl_val rfl (ex_nilCheck rfl) ?_; refine wl_val rfl (ex_fieldAddr rfl Try.fld41_1) ?_; refine wl_store1 rfl rfl (by first | rfl | assumption) Try.size3 hB405 rfl fun w482 hB483 hw484 => ?_; have hE485 := hE403.step hw484 (fun y hy => .inl hy); have hO486 := hO404.evo hw484 hA385.symm.own1; have hO487 := hO406.evo hw484 hR3.ap.symm.own1
         try simp only [List.setIfInBounds_toArray, List.set_cons_zero, List.set_cons_succ, Nat.reduceAdd, Nat.zero_add, Nat.add_zero] at hB483
         refine wl_nil (nrm_then ?_); refine cw_seq ?_; refine cw_region ?_; refine wl_m ?_; refine wl_callP1 (vs := [_]) Try.goes47 rfl (single_ok (st := pset st (j + 1)) ⟨hB483, hO487, hR.ne⟩ hs hdash.2.1 hbj1) rfl ?_ ?_
         ·skip
          intro pv wp hpp; obtain ⟨hpe, rfl, hpw⟩ := hpp; exact And.intro rfl ⟨_, rfl, _, (it_rest (fun h => absurd ((pre2 hle).2 h) hc23)).trans ((it_rng (fun _ => none_of' hc72)).trans (rg_err2 hx hdash hpe)), rfl, (hE485).step hpw (fun y hy => .inl hy)⟩
         rintro _ w488 ⟨hi, m, hx2, rfl, hw489, hR4⟩; have hE490 := hE485.step hw489 (fun y hy => .inl hy); have hB491 := hO486.evo hw489 ((by first | exact hA385.symm.own1 | exact hA385.symm.nmem1)); obtain ⟨hbm, hjm, hhi0, hhi1⟩ := pOne_b hx2 hbj1 hdash.2.1; refine wl_a ?_; refine wl_nil (nrm_then ?_); refine cw_seq ?_; refine cw_seq ?_; refine cw_region ?_; refine wl_m ?_; refine wl_m ?_; refine wl_val rfl (ex_lss rfl rfl) ?_; refine wl_nil (nrm_then ?_); refine cw_if rfl (fun hc120 => ?_) (fun hc120 => ?_)
         ·skip
          refine cw_region ?_; refine wl_callP1 (vs := [_]) Try.goes10 rfl (fail_ok 81) rfl ?_ ?_
          ·skip
           intro pv wp hpp; obtain ⟨rfl, hpw⟩ := hpp; exact And.intro rfl ⟨_, rfl, _, (it_rest (fun h => absurd ((pre2 hle).2 h) hc23)).trans ((it_rng (fun _ => none_of' hc72)).trans (rg_bad hx hdash hx2 (by omega))), rfl, (hE490).then hpw⟩
          intro _ _ hF; exact hF.elim
         ·skip
          refine cw_skip (nrm_then ?_); refine cw_seq ?_; refine cw_region ?_; refine wl_m ?_; refine wl_m ?_; refine wl_bslice (vs := [_, _]) rfl Try.slice77 rfl rfl rfl rfl fun b494 w495 hO496 hs497 hw498 => ?_; have hA499 := Apart.new (Lt.own hB491) hs497; have hA500 := Apart.new (Lt.blk hR4.blk) hs497; have hA501 := Apart.new (Lt.own hR4.own) hs497; have hG502 := Ge.new hE490 hs497; have hE503 := hE490.then hw498; have hO504 := hB491.evo0 hw498; have hB505 := hw498.blk0 hR4.blk; have hO506 := hR4.own.evo0 hw498; refine wl_call1 (vs := [_]) Try.goes28 rfl (span_ok (es := [lo, hi]) hO496 (by simp)) rfl ?_; rintro _ w507 ⟨a1, c1, ob1, rfl, hO1, hg1, hw508⟩; have hA509 := Apart.fresh (Lt.own hO504) hg1; have hA510 := Apart.fresh (Lt.blk hB505) hg1; have hA511 := Apart.fresh (Lt.own hO506) hg1; have hA512 := Apart.fresh (Lt.own hO496) hg1; have hG513 := Ge.fresh hE503 hg1; have hE514 := hE503.then hw508; have hO515 := hO504.evo0 hw508; have hB516 := hw508.blk0 hB505; have hO517 := hO506.evo0 hw508; have hO518 := hO496.evo0 hw508; refine wl_a ?_; refine wl_nil (nrm_then ?_); refine cw_ret (bodyp_ret (body_ret1 rfl rfl ?_))
          exact ⟨_, _, (it_rest (fun h => absurd ((pre2 hle).2 h) hc23)).trans ((it_rng (fun _ => none_of' hc72)).trans (rg_two hx hdash hx2 (by omega))), ⟨_, _, _, [(lo, hi)], rfl, hO1, hG513, (fun g hg => by rw [List.mem_singleton.1 hg]; exact ⟨hlo0, by omega, hhi1⟩), rg_in lo hi, by simp⟩, hE514, ⟨hB516, hO517, hR.ne⟩⟩
    ·skip
     refine cw_skip (nrm_then ?_); refine cw_seq ?_; refine cw_region ?_; refine wl_m ?_; refine wl_callP1 (vs := [_]) Try.goes47 rfl (single_ok ⟨hB9, hO10, hR.ne⟩ hs hlt hb) rfl ?_ ?_
     ·skip
      intro pv wp hpp; obtain ⟨hpe, rfl, hpw⟩ := hpp; exact And.intro rfl ⟨_, rfl, _, (it_rest (fun h => absurd ((pre2 hle).2 h) hc23)).trans ((it_rng (fun h => by omega)).trans (rg_err hpe)), rfl, (hE8).step hpw (fun y hy => .inl hy)⟩
     rintro _ w519 ⟨lo, j, hx, rfl, hw520, hR3⟩; have hE521 := hE8.step hw520 (fun y hy => .inl hy); obtain ⟨hbj, hij, hlo0, hlo1⟩ := pOne_b hx hb hlt; have hpj : (pset st j).pos = j := rfl; have hbjl := hbj.le; have hrs2 := sub_sz (s := s) (a := j) (Nat.le_refl s.size); refine wl_a ?_; refine wl_nil (nrm_then ?_); refine cw_seq ?_; refine cw_quiet (by kernel_rfl) (by kernel_rfl) ?_; refine ql_val rfl (fun _ hq523 => ex_move rfl) ?_; refine ql_val rfl (fun _ hq523 => ex_nilCheck rfl) ?_; refine ql_val rfl (fun _ hq523 => ex_fieldAddr rfl Try.fld41_0) ?_; refine ql_val rfl (fun _ hq523 => ex_load1 rfl Try.agg9 (cell_nth (hq523.blk0 hR3.blk) rfl)) ?_; refine ql_val rfl (fun _ hq523 => ex_move rfl) ?_; refine ql_val rfl (fun _ hq523 => ex_nilCheck rfl) ?_; refine ql_val rfl (fun _ hq523 => ex_fieldAddr rfl Try.fld41_1) ?_; refine ql_val rfl (fun _ hq523 => ex_load1 rfl Try.agg3 (cell_nth (hq523.blk0 hR3.blk) rfl)) ?_; refine ql_val rfl (fun _ hq523 => ex_ssubFrom (l := j) rfl rfl Try.underlying9 rfl hbj.le) ?_; refine ql_val rfl (fun _ hq523 => ex_assign rfl) ?_; refine ql_nil (fun wq522 hq523 => nrm_then ?_); have hE524 := hE521.then hq523; have hB525 := hq523.blk0 hR3.blk; have hO526 := hR3.own.evo0 hq523; refine cw_seq ?_; refine cw_seq ?_; refine cw_region ?_; refine wl_m ?_; refine wl_val rfl (ex_len_str rfl Try.underlying9 rfl) ?_; refine wl_val rfl (ex_lss rfl rfl) ?_; refine wl_m ?_; refine wl_split (t := 95) rfl (fun hs95 => ?_) (fun hs95 => ?_)
     ·skip
      refine wl_n ?_; refine wl_n ?_; refine wl_n ?_; refine wl_pt ?_; refine wl_m ?_; refine wl_n ?_; refine wl_n ?_; refine wl_n ?_; refine wl_pt ?_; refine wl_nil (nrm_then ?_); refine cw_true rfl ?_; refine cw_seq ?_; refine cw_region ?_; refine wl_m ?_; refine wl_m ?_; refine wl_bslice (vs := [_, _]) rfl Try.slice77 rfl rfl rfl rfl fun b527 w528 hO529 hs530 hw531 => ?_; have hA532 := Apart.new (Lt.blk hB525) hs530; have hA533 := Apart.new (Lt.own hO526) hs530; have hG534 := Ge.new hE524 hs530; have hE535 := hE524.then hw531; have hB536 := hw531.blk0 hB525; have hO537 := hO526.evo0 hw531; refine wl_call1 (vs := [_]) Try.goes28 rfl (span_ok (es := [lo, lo]) hO529 (by simp)) rfl ?_; rintro _ w538 ⟨a1, c1, ob1, rfl, hO1, hg1, hw539⟩; have hA540 := Apart.fresh (Lt.blk hB536) hg1; have hA541 := Apart.fresh (Lt.own hO537) hg1; have hA542 := Apart.fresh (Lt.own hO529) hg1; have hG543 := Ge.fresh hE535 hg1; have hE544 := hE535.then hw539; have hB545 := hw539.blk0 hB536; have hO546 := hO537.evo0 hw539; have hO547 := hO529.evo0 hw539; refine wl_a ?_; refine wl_nil (nrm_then ?_); refine cw_ret (ret_then (bodyp_ret (body_ret1 rfl rfl ?_)))
      exact ⟨_, _, (it_rest (fun h => absurd ((pre2 hle).2 h) hc23)).trans ((it_rng (fun h => by omega)).trans (rg_one hx (by rintro ⟨⟨h1, h2⟩, h3, h4⟩; omega))), ⟨_, _, _, [(lo, lo)], rfl, hO1, hG543, (fun g hg => by rw [List.mem_singleton.1 hg]; exact ⟨hlo0, Int.le_refl _, hlo1⟩), rg_in lo lo, by simp⟩, hE544, ⟨hB545, hO546, hR.ne⟩⟩
     ·skip
      have f0 : sb (s.extract j s.size) 0 = sb s j := sb_from (by omega); have f1 : sb (s.extract j s.size) 1 = sb s (j + 1) := sb_from (by omega); refine wl_g ?_; refine wl_m ?_; refine wl_g ?_; refine wl_val rfl (ex_sidxE (n := 0) rfl rfl Try.underlying9 rfl (by omega) f0) ?_; refine wl_g ?_; refine wl_val rfl (ex_neq rfl rfl) ?_; refine wl_pf ?_; refine wl_m ?_; refine wl_split (t := 100) rfl (fun hs100 => ?_) (fun hs100 => ?_)
      ·skip
       refine wl_n ?_; refine wl_n ?_; refine wl_n ?_; refine wl_pt ?_; refine wl_nil (nrm_then ?_); refine cw_true rfl ?_; refine cw_seq ?_; refine cw_region ?_; refine wl_m ?_; refine wl_m ?_; refine wl_bslice (vs := [_, _]) rfl Try.slice77 rfl rfl rfl rfl fun b548 w549 hO550 hs551 hw552 => ?_; have hA553 := Apart.new (Lt.blk hB525) hs551; have hA554 := Apart.new (Lt.own hO526) hs551; have hG555 := Ge.new hE524 hs551; have hE556 := hE524.then hw552; have hB557 := hw552.blk0 hB525; have hO558 := hO526.evo0 hw552; refine wl_call1 (vs := [_]) Try.goes28 rfl (span_ok (es := [lo, lo]) hO550 (by simp)) rfl ?_; rintro _ w559 ⟨a1, c1, ob1, rfl, hO1, hg1, hw560⟩; have hA561 := Apart.fresh (Lt.blk hB557) hg1; have hA562 := Apart.fresh (Lt.own hO558) hg1; have hA563 := Apart.fresh (Lt.own hO550) hg1; have hG564 := Ge.fresh hE556 hg1; have hE565 := hE556.then hw560; have hB566 := hw560.blk0 hB557; have hO567 := hO558.evo0 hw560; have hO568 := hO550.evo0 hw560; refine wl_a ?_; refine wl_nil (nrm_then ?_); refine cw_ret (ret_then (bodyp_ret (body_ret1 rfl rfl ?_)))
       exact ⟨_, _, (it_rest (fun h => absurd ((pre2 hle).2 h) hc23)).trans ((it_rng (fun h => by omega)).trans (rg_one hx (by rintro ⟨⟨h1, h2⟩, h3, h4⟩; omega))), ⟨_, _, _, [(lo, lo)], rfl, hO1, hG564, (fun g hg => by rw [List.mem_singleton.1 hg]; exact ⟨hlo0, Int.le_refl _, hlo1⟩), rg_in lo lo, by simp⟩, hE565, ⟨hB566, hO567, hR.ne⟩⟩
      ·skip
       refine wl_g ?_; refine wl_m ?_; refine wl_g ?_; refine wl_val rfl (ex_sidxE (n := 1) rfl rfl Try.underlying9 rfl (by omega) f1) ?_; refine wl_g ?_; refine wl_val rfl (ex_eql rfl rfl) ?_; refine wl_pf ?_; refine wl_nil (nrm_then ?_); refine cw_if rfl (fun hc104 => ?_) (fun hc104 => ?_)
       ·skip
        refine cw_seq ?_; refine cw_region ?_; refine wl_m ?_; refine wl_m ?_; refine wl_bslice (vs := [_, _]) rfl Try.slice77 rfl rfl rfl rfl fun b569 w570 hO571 hs572 hw573 => ?_; have hA574 := Apart.new (Lt.blk hB525) hs572; have hA575 := Apart.new (Lt.own hO526) hs572; have hG576 := Ge.new hE524 hs572; have hE577 := hE524.then hw573; have hB578 := hw573.blk0 hB525; have hO579 := hO526.evo0 hw573; refine wl_call1 (vs := [_]) Try.goes28 rfl (span_ok (es := [lo, lo]) hO571 (by simp)) rfl ?_; rintro _ w580 ⟨a1, c1, ob1, rfl, hO1, hg1, hw581⟩; have hA582 := Apart.fresh (Lt.blk hB578) hg1; have hA583 := Apart.fresh (Lt.own hO579) hg1; have hA584 := Apart.fresh (Lt.own hO571) hg1; have hG585 := Ge.fresh hE577 hg1; have hE586 := hE577.then hw581; have hB587 := hw581.blk0 hB578; have hO588 := hO579.evo0 hw581; have hO589 := hO571.evo0 hw581; refine wl_a ?_; refine wl_nil (nrm_then ?_); refine cw_ret (ret_then (bodyp_ret (body_ret1 rfl rfl ?_)))
        exact ⟨_, _, (it_rest (fun h => absurd ((pre2 hle).2 h) hc23)).trans ((it_rng (fun h => by omega)).trans (rg_one hx (by rintro ⟨⟨h1, h2⟩, h3, h4⟩; omega))), ⟨_, _, _, [(lo, lo)], rfl, hO1, hG585, (fun g hg => by rw [List.mem_singleton.1 hg]; exact ⟨hlo0, Int.le_refl _, hlo1⟩), rg_in lo lo, by simp⟩, hE586, ⟨hB587, hO588, hR.ne⟩⟩
       ·skip
        have hdash : isB s j 45 ∧ j + 1 < s.size ∧ sb s (j + 1) ≠ 93 := ⟨⟨by omega, by omega⟩, by omega, by omega⟩; have hbj1 := hdash.1.asc (by decide) hbj; refine cw_skip (nrm_then ?_); refine cw_seq ?_; refine cw_region ?_; refine wl_m ?_; refine wl_val rfl (ex_nilCheck rfl) ?_; refine wl_val rfl (ex_fieldAddr rfl Try.fld41_1) ?_; refine wl_val rfl (ex_load1 rfl Try.agg3 (cell_nth hB525 rfl)) ?_; refine wl_val rfl (ex_add_i64 rfl rfl (by omega) (by omega)) ?_; refine wl_val rfl (ex_nilCheck rfl) ?_; refine wl_val rfl (ex_fieldAddr rfl Try.fld41_1) ?_; refine wl_store1 rfl rfl (by first | rfl | assumption) Try.size3 hB525 rfl fun w590 hB591 hw592 => ?_; have hE593 := hE524.step hw592 (fun y hy => .inl hy); have hO594 := hO526.evo hw592 hR3.ap.symm.own1
        try simp only [List.setIfInBounds_toArray, List.set_cons_zero, List.set_cons_succ, Nat.reduceAdd, Nat.zero_add, Nat.add_zero] at hB591
        refine wl_nil (nrm_then ?_); refine cw_seq ?_; refine cw_region ?_; refine wl_m ?_; refine wl_callP1 (vs := [_]) Try.goes47 rfl (single_ok (st := pset st (j + 1)) ⟨hB591, hO594, hR.ne⟩ hs hdash.2.1 hbj1) rfl ?_ ?_
        ·skip
         intro pv wp hpp; obtain ⟨hpe, rfl, hpw⟩ := hpp; exact And.intro rfl ⟨_, rfl, _, (it_rest (fun h => absurd ((pre2 hle).2 h) hc23)).trans ((it_rng (fun h => by omega)).trans (rg_err2 hx hdash hpe)), rfl, (hE593).step hpw (fun y hy => .inl hy)⟩
        rintro _ w595 ⟨hi, m, hx2, rfl, hw596, hR4⟩; have hE597 := hE593.step hw596 (fun y hy => .inl hy); obtain ⟨hbm, hjm, hhi0, hhi1⟩ := pOne_b hx2 hbj1 hdash.2.1; refine wl_a ?_; refine wl_nil (nrm_then ?_); refine cw_seq ?_; refine cw_seq ?_; refine cw_region ?_; refine wl_m ?_; refine wl_m ?_; refine wl_val rfl (ex_lss rfl rfl) ?_; refine wl_nil (nrm_then ?_); refine cw_if rfl (fun hc120 => ?_) (fun hc120 => ?_)
        ·skip
         refine cw_region ?_; refine wl_callP1 (vs := [_]) Try.goes10 rfl (fail_ok 81) rfl ?_ ?_
         ·skip
          intro pv wp hpp; obtain ⟨rfl, hpw⟩ := hpp; exact And.intro rfl ⟨_, rfl, _, (it_rest (fun h => absurd ((pre2 hle).2 h) hc23)).trans ((it_rng (fun h => by omega)).trans (rg_bad hx hdash hx2 (by omega))), rfl, (hE597).then hpw⟩
         intro _ _ hF; exact hF.elim
        ·skip
         refine cw_skip (nrm_then ?_); refine cw_seq ?_; refine cw_region ?_; refine wl_m ?_; refine wl_m ?_; refine wl_bslice (vs := [_, _]) rfl Try.slice77 rfl rfl rfl rfl fun b600 w601 hO602 hs603 hw604 => ?_; have hA605 := Apart.new (Lt.blk hR4.blk) hs603; have hA606 := Apart.new (Lt.own hR4.own) hs603; have hG607 := Ge.new hE597 hs603; have hE608 := hE597.then hw604; have hB609 := hw604.blk0 hR4.blk; have hO610 := hR4.own.evo0 hw604; refine wl_call1 (vs := [_]) Try.goes28 rfl (span_ok (es := [lo, hi]) hO602 (by simp)) rfl ?_; rintro _ w611 ⟨a1, c1, ob1, rfl, hO1, hg1, hw612⟩; have hA613 := Apart.fresh (Lt.blk hB609) hg1; have hA614 := Apart.fresh (Lt.own hO610) hg1; have hA615 := Apart.fresh (Lt.own hO602) hg1; have hG616 := Ge.fresh hE608 hg1; have hE617 := hE608.then hw612; have hB618 := hw612.blk0 hB609; have hO619 := hO610.evo0 hw612; have hO620 := hO602.evo0 hw612; refine wl_a ?_; refine wl_nil (nrm_then ?_); refine cw_ret (bodyp_ret (body_ret1 rfl rfl ?_))
         exact ⟨_, _, (it_rest (fun h => absurd ((pre2 hle).2 h) hc23)).trans ((it_rng (fun h => by omega)).trans (rg_two hx hdash hx2 (by omega))), ⟨_, _, _, [(lo, hi)], rfl, hO1, hG616, (fun g hg => by rw [List.mem_singleton.1 hg]; exact ⟨hlo0, by omega, hhi1⟩), rg_in lo hi, by simp⟩, hE617, ⟨hB618, hO619, hR.ne⟩⟩
   ·skip
    refine wl_n ?_; refine wl_n ?_; refine wl_n ?_; refine wl_pf ?_; refine wl_nil (nrm_then ?_); refine cw_false rfl ?_; refine cw_skip (nrm_then ?_); refine cw_seq ?_; refine cw_region ?_; refine wl_m ?_; refine wl_callP1 (vs := [_]) Try.goes47 rfl (single_ok ⟨hB9, hO10, hR.ne⟩ hs hlt hb) rfl ?_ ?_
    ·skip
     intro pv wp hpp; obtain ⟨hpe, rfl, hpw⟩ := hpp; exact And.intro rfl ⟨_, rfl, _, (it_rest (fun h => absurd ((pre2 hle).2 h) hc23)).trans ((it_rng (fun h => by omega)).trans (rg_err hpe)), rfl, (hE8).step hpw (fun y hy => .inl hy)⟩
    rintro _ w621 ⟨lo, j, hx, rfl, hw622, hR3⟩; have hE623 := hE8.step hw622 (fun y hy => .inl hy); obtain ⟨hbj, hij, hlo0, hlo1⟩ := pOne_b hx hb hlt; have hpj : (pset st j).pos = j := rfl; have hbjl := hbj.le; have hrs2 := sub_sz (s := s) (a := j) (Nat.le_refl s.size); refine wl_a ?_; refine wl_nil (nrm_then ?_); refine cw_seq ?_; refine cw_quiet (by kernel_rfl) (by kernel_rfl) ?_; refine ql_val rfl (fun _ hq625 => ex_move rfl) ?_; refine ql_val rfl (fun _ hq625 => ex_nilCheck rfl) ?_; refine ql_val rfl (fun _ hq625 => ex_fieldAddr rfl Try.fld41_0) ?_; refine ql_val rfl (fun _ hq625 => ex_load1 rfl Try.agg9 (cell_nth (hq625.blk0 hR3.blk) rfl)) ?_; refine ql_val rfl (fun _ hq625 => ex_move rfl) ?_; refine ql_val rfl (fun _ hq625 => ex_nilCheck rfl) ?_; refine ql_val rfl (fun _ hq625 => ex_fieldAddr rfl Try.fld41_1) ?_; refine ql_val rfl (fun _ hq625 => ex_load1 rfl Try.agg3 (cell_nth (hq625.blk0 hR3.blk) rfl)) ?_; refine ql_val rfl (fun _ hq625 => ex_ssubFrom (l := j) rfl rfl Try.underlying9 rfl hbj.le) ?_; refine ql_val rfl (fun _ hq625 => ex_assign rfl) ?_; refine ql_nil (fun wq624 hq625 => nrm_then ?_); have hE626 := hE623.then hq625; have hB627 := hq625.blk0 hR3.blk; have hO628 := hR3.own.evo0 hq625; refine cw_seq ?_; refine cw_seq ?_; refine cw_region ?_; refine wl_m ?_; refine wl_val rfl (ex_len_str rfl Try.underlying9 rfl) ?_; refine wl_val rfl (ex_lss rfl rfl) ?_; refine wl_m ?_; refine wl_split (t := 95) rfl (fun hs95 => ?_) (fun hs95 => ?_)
    ·skip
     refine wl_n ?_; refine wl_n ?_; refine wl_n ?_; refine wl_pt ?_; refine wl_m ?_; refine wl_n ?_; refine wl_n ?_; refine wl_n ?_; refine wl_pt ?_; refine wl_nil (nrm_then ?_); refine cw_true rfl ?_; refine cw_seq ?_; refine cw_region ?_; refine wl_m ?_; refine wl_m ?_; refine wl_bslice (vs := [_, _]) rfl Try.slice77 rfl rfl rfl rfl fun b629 w630 hO631 hs632 hw633 => ?_; have hA634 := Apart.new (Lt.blk hB627) hs632; have hA635 := Apart.new (Lt.own hO628) hs632; have hG636 := Ge.new hE626 hs632; have hE637 := hE626.then hw633; have hB638 := hw633.blk0 hB627; have hO639 := hO628.evo0 hw633; refine wl_call1 (vs := [_]) Try.goes28 rfl (span_ok (es := [lo, lo]) hO631 (by simp)) rfl ?_; rintro _ w640 ⟨a1, c1, ob1, rfl, hO1, hg1, hw641⟩; have hA642 := Apart.fresh (Lt.blk hB638) hg1; have hA643 := Apart.fresh (Lt.own hO639) hg1; have hA644 := Apart.fresh (Lt.own hO631) hg1; have hG645 := Ge.fresh hE637 hg1; have hE646 := hE637.then hw641; have hB647 := hw641.blk0 hB638; have hO648 := hO639.evo0 hw641; have hO649 := hO631.evo0 hw641; refine wl_a ?_; refine wl_nil (nrm_then ?_); refine cw_ret (ret_then (bodyp_ret (body_ret1 rfl rfl ?_)))
     exact ⟨_, _, (it_rest (fun h => absurd ((pre2 hle).2 h) hc23)).trans ((it_rng (fun h => by omega)).trans (rg_one hx (by rintro ⟨⟨h1, h2⟩, h3, h4⟩; omega))), ⟨_, _, _, [(lo, lo)], rfl, hO1, hG645, (fun g hg => by rw [List.mem_singleton.1 hg]; exact ⟨hlo0, Int.le_refl _, hlo1⟩), rg_in lo lo, by simp⟩, hE646, ⟨hB647, hO648, hR.ne⟩⟩
    ·skip
     have f0 : sb (s.extract j s.size) 0 = sb s j := sb_from (by omega); have f1 : sb (s.extract j s.size) 1 = sb s (j + 1) := sb_from (by omega); refine wl_g ?_; refine wl_m ?_; refine wl_g ?_; refine wl_val rfl (ex_sidxE (n := 0) rfl rfl Try.underlying9 rfl (by omega) f0) ?_; refine wl_g ?_; refine wl_val rfl (ex_neq rfl rfl) ?_; refine wl_pf ?_; refine wl_m ?_; refine wl_split (t := 100) rfl (fun hs100 => ?_) (fun hs100 => ?_)
     ·skip
      refine wl_n ?_; refine wl_n ?_; refine wl_n ?_; refine wl_pt ?_; refine wl_nil (nrm_then ?_); refine cw_true rfl ?_; refine cw_seq ?_; refine cw_region ?_; refine wl_m ?_; refine wl_m ?_; refine wl_bslice (vs := [_, _]) rfl Try.slice77 rfl rfl rfl rfl fun b650 w651 hO652 hs653 hw654 => ?_; have hA655 := Apart.new (Lt.blk hB627) hs653; have hA656 := Apart.new (Lt.own hO628) hs653; have hG657 := Ge.new hE626 hs653; have hE658 := hE626.then hw654; have hB659 := hw654.blk0 hB627; have hO660 := hO628.evo0 hw654; refine wl_call1 (vs := [_]) Try.goes28 rfl (span_ok (es := [lo, lo]) hO652 (by simp)) rfl ?_; rintro _ w661 ⟨a1, c1, ob1, rfl, hO1, hg1, hw662⟩; have hA663 := Apart.fresh (Lt.blk hB659) hg1; have hA664 := Apart.fresh (Lt.own hO660) hg1; have hA665 := Apart.fresh (Lt.own hO652) hg1; have hG666 := Ge.fresh hE658 hg1; have hE667 := hE658.then hw662; have hB668 := hw662.blk0 hB659; have hO669 := hO660.evo0 hw662; have hO670 := hO652.evo0 hw662; refine wl_a ?_; refine wl_nil (nrm_then ?_); refine cw_ret (ret_then (bodyp_ret (body_ret1 rfl rfl ?_)))
      exact ⟨_, _, (it_rest (fun h => absurd ((pre2 hle).2 h) hc23)).trans ((it_rng (fun h => by omega)).trans (rg_one hx (by rintro ⟨⟨h1, h2⟩, h3, h4⟩; omega))), ⟨_, _, _, [(lo, lo)], rfl, hO1, hG666, (fun g hg => by rw [List.mem_singleton.1 hg]; exact ⟨hlo0, Int.le_refl _, hlo1⟩), rg_in lo lo, by simp⟩, hE667, ⟨hB668, hO669, hR.ne⟩⟩
     ·skip
      refine wl_g ?_; refine wl_m ?_; refine wl_g ?_; refine wl_val rfl (ex_sidxE (n := 1) rfl rfl Try.underlying9 rfl (by omega) f1) ?_; refine wl_g ?_; refine wl_val rfl (ex_eql rfl rfl) ?_; refine wl_pf ?_; refine wl_nil (nrm_then ?_); refine cw_if rfl (fun hc104 => ?_) (fun hc104 => ?_)
      ·skip
       refine cw_seq ?_; refine cw_region ?_; refine wl_m ?_; refine wl_m ?_; refine wl_bslice (vs := [_, _]) rfl Try.slice77 rfl rfl rfl rfl fun b671 w672 hO673 hs674 hw675 => ?_; have hA676 := Apart.new (Lt.blk hB627) hs674; have hA677 := Apart.new (Lt.own hO628) hs674; have hG678 := Ge.new hE626 hs674; have hE679 := hE626.then hw675; have hB680 := hw675.blk0 hB627; have hO681 := hO628.evo0 hw675; refine wl_call1 (vs := [_]) Try.goes28 rfl (span_ok (es := [lo, lo]) hO673 (by simp)) rfl ?_; rintro _ w682 ⟨a1, c1, ob1, rfl, hO1, hg1, hw683⟩; have hA684 := Apart.fresh (Lt.blk hB680) hg1; have hA685 := Apart.fresh (Lt.own hO681) hg1; have hA686 := Apart.fresh (Lt.own hO673) hg1; have hG687 := Ge.fresh hE679 hg1; have hE688 := hE679.then hw683; have hB689 := hw683.blk0 hB680; have hO690 := hO681.evo0 hw683; have hO691 := hO673.evo0 hw683; refine wl_a ?_; refine wl_nil (nrm_then ?_); refine cw_ret (ret_then (bodyp_ret (body_ret1 rfl rfl ?_)))
       exact ⟨_, _, (it_rest (fun h => absurd ((pre2 hle).2 h) hc23)).trans ((it_rng (fun h => by omega)).trans (rg_one hx (by rintro ⟨⟨h1, h2⟩, h3, h4⟩; omega))), ⟨_, _, _, [(lo, lo)], rfl, hO1, hG687, (fun g hg => by rw [List.mem_singleton.1 hg]; exact ⟨hlo0, Int.le_refl _, hlo1⟩), rg_in lo lo, by simp⟩, hE688, ⟨hB689, hO690, hR.ne⟩⟩
      ·skip
       have hdash : isB s j 45 ∧ j + 1 < s.size ∧ sb s (j + 1) ≠ 93 := ⟨⟨by omega, by omega⟩, by omega, by omega⟩; have hbj1 := hdash.1.asc (by decide) hbj; refine cw_skip (nrm_then ?_); refine cw_seq ?_; refine cw_region ?_; refine wl_m ?_; refine wl_val rfl (ex_nilCheck rfl) ?_; refine wl_val rfl (ex_fieldAddr rfl Try.fld41_1) ?_; refine wl_val rfl (ex_load1 rfl Try.agg3 (cell_nth hB627 rfl)) ?_; refine wl_val rfl (ex_add_i64 rfl rfl (by omega) (by omega)) ?_; refine wl_val rfl (ex_nilCheck rfl) ?_; refine wl_val rfl (ex_fieldAddr rfl Try.fld41_1) ?_; refine wl_store1 rfl rfl (by first | rfl | assumption) Try.size3 hB627 rfl fun w692 hB693 hw694 => ?_; have hE695 := hE626.step hw694 (fun y hy => .inl hy); have hO696 := hO628.evo hw694 hR3.ap.symm.own1
       try simp only [List.setIfInBounds_toArray, List.set_cons_zero, List.set_cons_succ, Nat.reduceAdd, Nat.zero_add, Nat.add_zero] at hB693
       refine wl_nil (nrm_then ?_); refine cw_seq ?_; refine cw_region ?_; refine wl_m ?_; refine wl_callP1 (vs := [_]) Try.goes47 rfl (single_ok (st := pset st (j + 1)) ⟨hB693, hO696, hR.ne⟩ hs hdash.2.1 hbj1) rfl ?_ ?_
       ·skip
        intro pv wp hpp; obtain ⟨hpe, rfl, hpw⟩ := hpp; exact And.intro rfl ⟨_, rfl, _, (it_rest (fun h => absurd ((pre2 hle).2 h) hc23)).trans ((it_rng (fun h => by omega)).trans (rg_err2 hx hdash hpe)), rfl, (hE695).step hpw (fun y hy => .inl hy)⟩
       rintro _ w697 ⟨hi, m, hx2, rfl, hw698, hR4⟩; have hE699 := hE695.step hw698 (fun y hy => .inl hy); obtain ⟨hbm, hjm, hhi0, hhi1⟩ := pOne_b hx2 hbj1 hdash.2.1; refine wl_a ?_; refine wl_nil (nrm_then ?_); refine cw_seq ?_; refine cw_seq ?_; refine cw_region ?_; refine wl_m ?_; refine wl_m ?_; refine wl_val rfl (ex_lss rfl rfl) ?_; refine wl_nil (nrm_then ?_); refine cw_if rfl (fun hc120 => ?_) (fun hc120 => ?_)
       ·skip
        refine cw_region ?_; refine wl_callP1 (vs := [_]) Try.goes10 rfl (fail_ok 81) rfl ?_ ?_
        ·skip
         intro pv wp hpp; obtain ⟨rfl, hpw⟩ := hpp; exact And.intro rfl ⟨_, rfl, _, (it_rest (fun h => absurd ((pre2 hle).2 h) hc23)).trans ((it_rng (fun h => by omega)).trans (rg_bad hx hdash hx2 (by omega))), rfl, (hE699).then hpw⟩
        intro _ _ hF; exact hF.elim
       ·skip
        refine cw_skip (nrm_then ?_); refine cw_seq ?_; refine cw_region ?_; refine wl_m ?_; refine wl_m ?_; refine wl_bslice (vs := [_, _]) rfl Try.slice77 rfl rfl rfl rfl fun b702 w703 hO704 hs705 hw706 => ?_; have hA707 := Apart.new (Lt.blk hR4.blk) hs705; have hA708 := Apart.new (Lt.own hR4.own) hs705; have hG709 := Ge.new hE699 hs705; have hE710 := hE699.then hw706; have hB711 := hw706.blk0 hR4.blk; have hO712 := hR4.own.evo0 hw706; refine wl_call1 (vs := [_]) Try.goes28 rfl (span_ok (es := [lo, hi]) hO704 (by simp)) rfl ?_; rintro _ w713 ⟨a1, c1, ob1, rfl, hO1, hg1, hw714⟩; have hA715 := Apart.fresh (Lt.blk hB711) hg1; have hA716 := Apart.fresh (Lt.own hO712) hg1; have hA717 := Apart.fresh (Lt.own hO704) hg1; have hG718 := Ge.fresh hE710 hg1; have hE719 := hE710.then hw714; have hB720 := hw714.blk0 hB711; have hO721 := hO712.evo0 hw714; have hO722 := hO704.evo0 hw714; refine wl_a ?_; refine wl_nil (nrm_then ?_); refine cw_ret (bodyp_ret (body_ret1 rfl rfl ?_))
        exact ⟨_, _, (it_rest (fun h => absurd ((pre2 hle).2 h) hc23)).trans ((it_rng (fun h => by omega)).trans (rg_two hx hdash hx2 (by omega))), ⟨_, _, _, [(lo, hi)], rfl, hO1, hG718, (fun g hg => by rw [List.mem_singleton.1 hg]; exact ⟨hlo0, by omega, hhi1⟩), rg_in lo hi, by simp⟩, hE719, ⟨hB720, hO721, hR.ne⟩⟩
end Go.Proofs.Ytljadkcojnlioaa
