/- Tells: part 2 of 6 of what the law rests on. -/
import Derived.Test.YtgnpldackjbdjaaGreatTellsA
namespace Go.Proofs.YtgnpldackjbdjaaGreat
open Go.Proofs
open Go.W Go.RowKit
attribute [local irreducible] Decidable.decide
set_option linter.unusedSimpArgs false
set_option linter.unusedVariables false
theorem Tryz.agg22 : aggB Tryz.prog 22 = some false := by kernel_rfl
theorem Tryz.agg23 : aggB Tryz.prog 23 = some false := by kernel_rfl
theorem Tryz.agg25 : aggB Tryz.prog 25 = some true := by kernel_rfl
theorem Tryz.agg3 : aggB Tryz.prog 3 = some false := by kernel_rfl
theorem Tryz.agg4 : aggB Tryz.prog 4 = some false := by kernel_rfl
theorem Tryz.elem23 : elemB Tryz.prog 23 = some 9 := by kernel_rfl
theorem Tryz.fld25_0 : fieldB Tryz.prog 25 0 = some 0 := by kernel_rfl
theorem Tryz.fld25_1 : fieldB Tryz.prog 25 1 = some 1 := by kernel_rfl
theorem Tryz.fld25_2 : fieldB Tryz.prog 25 2 = some 2 := by kernel_rfl
theorem Tryz.fld25_3 : fieldB Tryz.prog 25 3 = some 3 := by kernel_rfl
theorem Tryz.fld25_4 : fieldB Tryz.prog 25 4 = some 4 := by kernel_rfl
theorem Tryz.fld25_5 : fieldB Tryz.prog 25 5 = some 5 := by kernel_rfl
theorem Tryz.fld25_6 : fieldB Tryz.prog 25 6 = some 6 := by kernel_rfl
theorem Tryz.fld25_7 : fieldB Tryz.prog 25 7 = some 7 := by kernel_rfl
theorem Tryz.fld25_8 : fieldB Tryz.prog 25 8 = some 8 := by kernel_rfl
theorem Tryz.goes166 : Goes Tryz.prog 166 := ⟨_, Tryz.func166, by kernel_rfl, by kernel_rfl⟩
theorem Tryz.goes167 : Goes Tryz.prog 167 := ⟨_, Tryz.func167, by kernel_rfl, by kernel_rfl⟩
theorem Tryz.size21 : sizeB Tryz.prog 21 = some 1 := by kernel_rfl
theorem Tryz.size22 : sizeB Tryz.prog 22 = some 1 := by kernel_rfl
theorem Tryz.size23 : sizeB Tryz.prog 23 = some 1 := by kernel_rfl
theorem Tryz.size25 : sizeB Tryz.prog 25 = some 9 := by kernel_rfl
theorem Tryz.size3 : sizeB Tryz.prog 3 = some 1 := by kernel_rfl
theorem Tryz.size4 : sizeB Tryz.prog 4 = some 1 := by kernel_rfl
theorem Tryz.size9 : sizeB Tryz.prog 9 = some 1 := by kernel_rfl
theorem Tryz.zero25 : zeroB Tryz.prog 25 = some #[.int .i64 0, .int .i32 0, .slice none 0 0, .int .i64 0, .int .i64 0, .bool false, .int .i64 0, .string ByteArray.empty, .slice none 0 0] := by kernel_rfl
theorem nmem2 {b jb : Nat} {ob : Option Nat} (h1 : Apart (some b) (some jb)) (h2 : Apart (some b) ob) : b ∉ jb :: ob.toList := fun hm => by
  rcases List.mem_cons.1 hm with h | h
  · exact h1 b rfl (by rw [h])
  · exact h2 b rfl (by simpa using h)
theorem bracketed_ok {w : World} (a k : Int) : Calls Tryz.prog 130 #[.int .i64 a, .int .i64 k] w (Ret fun v w' => v = .bool (decide (Brk a k)) ∧ Evo [] w w') := by
  refine calls_of_cw (N := 38) Tryz.func130 rfl rfl rfl ?_; refine cw_seq ?_; refine cw_region ?_; refine wl_a ?_; refine wl_nil (nrm_then ?_); refine cw_seq ?_; refine cw_seq ?_; refine cw_region ?_; refine wl_m ?_; refine wl_nil (nrm_then ?_); refine cw_block ?_; refine cw_seq ?_; refine cw_region ?_; refine wl_val rfl (ex_eql rfl rfl) ?_; refine wl_a ?_; refine wl_nil (nrm_then ?_); refine cw_if rfl (fun hc6 => ?_) (fun hc6 => ?_)
  ·skip
   refine cw_seq ?_; refine cw_region ?_; refine wl_m ?_; refine wl_val rfl (ex_eql rfl rfl) ?_; refine wl_a ?_; refine wl_nil (nrm_then ?_); refine cw_ret (ret_block (ret_then (body_ret1 rfl rfl ?_))); refine ⟨congrArg Value.bool (Bool.eq_iff_iff.2 ?_), (Evo.refl [] w)⟩
   simp only [decide_eq_true_eq, Bool.false_eq_true, Bool.true_eq_false, true_iff, false_iff, eq_self, iff_true]; unfold Brk; omega
  ·skip
   refine cw_seq ?_; refine cw_region ?_; refine wl_val rfl (ex_eql rfl rfl) ?_; refine wl_a ?_; refine wl_nil (nrm_then ?_); refine cw_if rfl (fun hc10 => ?_) (fun hc10 => ?_)
   ·skip
    refine cw_seq ?_; refine cw_region ?_; refine wl_m ?_; refine wl_val rfl (ex_eql rfl rfl) ?_; refine wl_m ?_; refine wl_split (t := 14) rfl (fun hs14 => ?_) (fun hs14 => ?_)
    ·skip
     refine wl_n ?_; refine wl_n ?_; refine wl_pt ?_; refine wl_m ?_; refine wl_n ?_; refine wl_n ?_; refine wl_pt ?_; refine wl_a ?_; refine wl_nil (nrm_then ?_); refine cw_ret (ret_block (ret_then (body_ret1 rfl rfl ?_))); refine ⟨congrArg Value.bool (Bool.eq_iff_iff.2 ?_), (Evo.refl [] w)⟩
     simp only [decide_eq_true_eq, Bool.false_eq_true, Bool.true_eq_false, true_iff, false_iff, eq_self, iff_true]; unfold Brk; omega
    ·skip
     refine wl_g ?_; refine wl_m ?_; refine wl_g ?_; refine wl_val rfl (ex_eql rfl rfl) ?_; refine wl_pf ?_; refine wl_m ?_; refine wl_split (t := 18) rfl (fun hs18 => ?_) (fun hs18 => ?_)
     ·skip
      refine wl_n ?_; refine wl_n ?_; refine wl_pt ?_; refine wl_a ?_; refine wl_nil (nrm_then ?_); refine cw_ret (ret_block (ret_then (body_ret1 rfl rfl ?_))); refine ⟨congrArg Value.bool (Bool.eq_iff_iff.2 ?_), (Evo.refl [] w)⟩
      simp only [decide_eq_true_eq, Bool.false_eq_true, Bool.true_eq_false, true_iff, false_iff, eq_self, iff_true]; unfold Brk; omega
     ·skip
      refine wl_g ?_; refine wl_m ?_; refine wl_g ?_; refine wl_val rfl (ex_eql rfl rfl) ?_; refine wl_pf ?_; refine wl_a ?_; refine wl_nil (nrm_then ?_); refine cw_ret (ret_block (ret_then (body_ret1 rfl rfl ?_))); refine ⟨congrArg Value.bool (Bool.eq_iff_iff.2 ?_), (Evo.refl [] w)⟩
      simp only [decide_eq_true_eq, Bool.false_eq_true, Bool.true_eq_false, true_iff, false_iff, eq_self, iff_true]; unfold Brk; omega
   ·skip
    refine cw_seq ?_; refine cw_region ?_; refine wl_val rfl (ex_eql rfl rfl) ?_; refine wl_a ?_; refine wl_nil (nrm_then ?_); refine cw_if rfl (fun hc22 => ?_) (fun hc22 => ?_)
    ·skip
     refine cw_seq ?_; refine cw_region ?_; refine wl_m ?_; refine wl_val rfl (ex_eql rfl rfl) ?_; refine wl_m ?_; refine wl_split (t := 26) rfl (fun hs26 => ?_) (fun hs26 => ?_)
     ·skip
      refine wl_n ?_; refine wl_n ?_; refine wl_pt ?_; refine wl_m ?_; refine wl_n ?_; refine wl_n ?_; refine wl_pt ?_; refine wl_m ?_; refine wl_n ?_; refine wl_n ?_; refine wl_pt ?_; refine wl_a ?_; refine wl_nil (nrm_then ?_); refine cw_ret (ret_block (ret_then (body_ret1 rfl rfl ?_))); refine ⟨congrArg Value.bool (Bool.eq_iff_iff.2 ?_), (Evo.refl [] w)⟩
      simp only [decide_eq_true_eq, Bool.false_eq_true, Bool.true_eq_false, true_iff, false_iff, eq_self, iff_true]; unfold Brk; omega
     ·skip
      refine wl_g ?_; refine wl_m ?_; refine wl_g ?_; refine wl_val rfl (ex_eql rfl rfl) ?_; refine wl_pf ?_; refine wl_m ?_; refine wl_split (t := 30) rfl (fun hs30 => ?_) (fun hs30 => ?_)
      ·skip
       refine wl_n ?_; refine wl_n ?_; refine wl_pt ?_; refine wl_m ?_; refine wl_n ?_; refine wl_n ?_; refine wl_pt ?_; refine wl_a ?_; refine wl_nil (nrm_then ?_); refine cw_ret (ret_block (ret_then (body_ret1 rfl rfl ?_))); refine ⟨congrArg Value.bool (Bool.eq_iff_iff.2 ?_), (Evo.refl [] w)⟩
       simp only [decide_eq_true_eq, Bool.false_eq_true, Bool.true_eq_false, true_iff, false_iff, eq_self, iff_true]; unfold Brk; omega
      ·skip
       refine wl_g ?_; refine wl_m ?_; refine wl_g ?_; refine wl_val rfl (ex_eql rfl rfl) ?_; refine wl_pf ?_; refine wl_m ?_; refine wl_split (t := 34) rfl (fun hs34 => ?_) (fun hs34 => ?_)
       ·skip
        refine wl_n ?_; refine wl_n ?_; refine wl_pt ?_; refine wl_a ?_; refine wl_nil (nrm_then ?_); refine cw_ret (ret_block (ret_then (body_ret1 rfl rfl ?_))); refine ⟨congrArg Value.bool (Bool.eq_iff_iff.2 ?_), (Evo.refl [] w)⟩
        simp only [decide_eq_true_eq, Bool.false_eq_true, Bool.true_eq_false, true_iff, false_iff, eq_self, iff_true]; unfold Brk; omega
       ·skip
        refine wl_g ?_; refine wl_m ?_; refine wl_g ?_; refine wl_val rfl (ex_eql rfl rfl) ?_; refine wl_pf ?_; refine wl_a ?_; refine wl_nil (nrm_then ?_); refine cw_ret (ret_block (ret_then (body_ret1 rfl rfl ?_))); refine ⟨congrArg Value.bool (Bool.eq_iff_iff.2 ?_), (Evo.refl [] w)⟩
        simp only [decide_eq_true_eq, Bool.false_eq_true, Bool.true_eq_false, true_iff, false_iff, eq_self, iff_true]; unfold Brk; omega
    ·skip
     refine cw_skip (nrm_block (nrm_then ?_)); refine cw_seq ?_; refine cw_region ?_; refine wl_a ?_; refine wl_nil (nrm_then ?_); refine cw_ret (body_ret1 rfl rfl ?_); refine ⟨congrArg Value.bool (Bool.eq_iff_iff.2 ?_), (Evo.refl [] w)⟩
     simp only [decide_eq_true_eq, Bool.false_eq_true, Bool.true_eq_false, true_iff, false_iff, eq_self, iff_true]; unfold Brk; omega
set_option maxHeartbeats 4000000 in
theorem fields_ok {n : Nat} {w : World} {jb : Nat} {st : St} {a : Option Addr} {c : Nat} {ob : Option Nat} {vs : List Value} {x : Rx} (hJ : JAt w 141 jb st a c ob) (hx : RRx n (jb :: ob.toList) w vs x) (hl : st.2.length ≤ 100000) :
    Calls Tryz.prog 129 #[.pointer (some ⟨jb, 0, none⟩), .agg vs.toArray] w (Ret fun v w' => ∃ b, v = .bool b ∧ (b = true ↔ NodeP x ∧ (x.kind = 7 → GroupOk x.cap x.name st.2)) ∧ Evo (jb :: ob.toList) w w' ∧
      (b = true → ∃ a' c' ob', JAt w' 141 jb (st.1, if x.kind = 7 then st.2 ++ [x.name] else st.2) a' c' ob' ∧ (ob' = ob ∨ ∃ g, ob' = some g ∧ w.heap.size ≤ g))) := by
  obtain ⟨hB, hO, hne⟩ := hJ
  have hAJN : Apart (some jb) ob := fun g h1 h2 => by cases h1; exact hne jb h2 rfl
  have hlt := blk_lt hB
  cases n with
  | zero => exact hx.elim
  | succ n =>
  obtain ⟨vr, vk, rfl, hr, hk, bl1, bl2, bl3⟩ := hx; obtain ⟨ka, kc, rfl, hkc, e1⟩ := hk; have hr0 := hr; obtain ⟨ra, rc, rfl, hrc, e2⟩ := hr; refine calls_of_cw (N := 127) Tryz.func129 rfl rfl rfl ?_; refine cw_seq ?_; refine cw_region ?_; refine wl_boxA rfl rfl fun b3 w1 hB2 hs3 hw4 => ?_; have hsz_b3 := hs3; have hA5 := Apart.new (Lt.blk hB) hs3; have hA6 := Apart.new (Lt.own hO) hs3; have hG7 := Ge.new (Evo.refl (jb :: ob.toList) w) hs3; have hE8 := (Evo.refl (jb :: ob.toList) w).then hw4; have hB9 := hw4.blk0 hB; have hO10 := hO.evo0 hw4; refine wl_a ?_; refine wl_nil (nrm_then ?_); refine cw_seq ?_; refine cw_region ?_; refine wl_val rfl (ex_loadBlk rfl Tryz.agg25 Tryz.size25 hB2 rfl) ?_; refine wl_alloc rfl Tryz.zero25 fun b5 w11 hB12 hs13 hw14 => ?_; have hsz_b5 := hs13; have hA15 := Apart.new (Lt.blk hB9) hs13; have hA16 := Apart.new (Lt.own hO10) hs13; have hA17 := Apart.new (Lt.blk hB2) hs13; have hG18 := Ge.new hE8 hs13; have hE19 := hE8.then hw14; have hB20 := hw14.blk0 hB9; have hO21 := hO10.evo0 hw14; have hB22 := hw14.blk0 hB2; refine wl_storeBlk rfl rfl Tryz.size25 hB12 rfl rfl ⟨by first | rfl | assumption, by first | rfl | assumption, by first | rfl | assumption, by first | rfl | assumption, by first | rfl | assumption, by first | rfl | assumption, by first | rfl | assumption, by first | rfl | assumption, by first | rfl | assumption, trivial⟩ fun w23 hB24 hw25 => ?_; have hE26 := hE19.step hw25 hG18.mem1; have hB27 := hw25.blk hB20 hA15.nmem1; have hO28 := hO21.evo hw25 hA16.own1; have hB29 := hw25.blk hB22 hA17.nmem1
  try simp only [List.setIfInBounds_toArray, List.set_cons_zero, List.set_cons_succ, Nat.reduceAdd, Nat.zero_add, Nat.add_zero] at hB24
  refine wl_nil (nrm_then ?_); refine cw_seq ?_; refine cw_region ?_; refine wl_val rfl (ex_fieldAddr rfl Tryz.fld25_0) ?_; refine wl_store1 rfl rfl (by first | rfl | assumption) Tryz.size3 hB24 rfl fun w30 hB31 hw32 => ?_; have hE33 := hE26.step hw32 hG18.mem1; have hB34 := hw32.blk hB27 hA15.nmem1; have hO35 := hO28.evo hw32 hA16.own1; have hB36 := hw32.blk hB29 hA17.nmem1
  try simp only [List.setIfInBounds_toArray, List.set_cons_zero, List.set_cons_succ, Nat.reduceAdd, Nat.zero_add, Nat.add_zero] at hB31
  refine wl_val rfl (ex_fieldAddr rfl Tryz.fld25_8) ?_; refine wl_store1 rfl rfl (by first | rfl | assumption) Tryz.size23 hB31 rfl fun w37 hB38 hw39 => ?_; have hE40 := hE33.step hw39 hG18.mem1; have hB41 := hw39.blk hB34 hA15.nmem1; have hO42 := hO35.evo hw39 hA16.own1; have hB43 := hw39.blk hB36 hA17.nmem1
  try simp only [List.setIfInBounds_toArray, List.set_cons_zero, List.set_cons_succ, Nat.reduceAdd, Nat.zero_add, Nat.add_zero] at hB38
  refine wl_nil (nrm_then ?_); refine cw_seq ?_; refine cw_region ?_; refine wl_a ?_; refine wl_nil (nrm_then ?_); refine cw_seq ?_; refine cw_seq ?_; refine cw_region ?_; refine wl_val rfl (ex_fieldAddr rfl Tryz.fld25_0) ?_; refine wl_val rfl (ex_load1 rfl Tryz.agg3 (cell_nth hB43 rfl)) ?_; refine wl_nil (nrm_then ?_); refine cw_block ?_; refine cw_seq ?_; refine cw_cut (α := Bool) (fun z => [(12, .bool z)]) [(0, _), (3, _), (4, _), (5, _), (6, _), (11, _)] (fun z wr => Evo [] w37 wr ∧ (z = true ↔ (x.kind = 1 ∨ (8 ≤ x.kind ∧ x.kind ≤ 13)))) ⟨rfl, rfl, rfl, rfl, rfl, rfl, trivial⟩ ?_ ?_
  ·skip
   refine cw_seq ?_; refine cw_region ?_; refine wl_val rfl (ex_eql rfl rfl) ?_; refine wl_a ?_; refine wl_nil (nrm_then ?_); refine cw_if rfl (fun hc12 => ?_) (fun hc12 => ?_)
   ·skip
    refine cw_skip (nrm_same ?_); refine ⟨(decide (x.kind = 1)), ⟨rfl, trivial⟩, ⟨rfl, rfl, rfl, rfl, rfl, rfl, trivial⟩, (Evo.refl [] w37), ?_⟩
    simp only [decide_eq_true_eq]; omega
   ·skip
    refine cw_seq ?_; refine cw_region ?_; refine wl_val rfl (ex_eql rfl rfl) ?_; refine wl_a ?_; refine wl_nil (nrm_then ?_); refine cw_if rfl (fun hc12 => ?_) (fun hc12 => ?_)
    ·skip
     refine cw_skip (nrm_same ?_); refine ⟨(decide (x.kind = 8)), ⟨rfl, trivial⟩, ⟨rfl, rfl, rfl, rfl, rfl, rfl, trivial⟩, (Evo.refl [] w37), ?_⟩
     simp only [decide_eq_true_eq]; omega
    ·skip
     refine cw_seq ?_; refine cw_region ?_; refine wl_val rfl (ex_eql rfl rfl) ?_; refine wl_a ?_; refine wl_nil (nrm_then ?_); refine cw_if rfl (fun hc12 => ?_) (fun hc12 => ?_)
     ·skip
      refine cw_skip (nrm_same ?_); refine ⟨(decide (x.kind = 9)), ⟨rfl, trivial⟩, ⟨rfl, rfl, rfl, rfl, rfl, rfl, trivial⟩, (Evo.refl [] w37), ?_⟩
      simp only [decide_eq_true_eq]; omega
     ·skip
      refine cw_seq ?_; refine cw_region ?_; refine wl_val rfl (ex_eql rfl rfl) ?_; refine wl_a ?_; refine wl_nil (nrm_then ?_); refine cw_if rfl (fun hc12 => ?_) (fun hc12 => ?_)
      ·skip
       refine cw_skip (nrm_same ?_); refine ⟨(decide (x.kind = 10)), ⟨rfl, trivial⟩, ⟨rfl, rfl, rfl, rfl, rfl, rfl, trivial⟩, (Evo.refl [] w37), ?_⟩
       simp only [decide_eq_true_eq]; omega
      ·skip
       refine cw_seq ?_; refine cw_region ?_; refine wl_val rfl (ex_eql rfl rfl) ?_; refine wl_a ?_; refine wl_nil (nrm_then ?_); refine cw_if rfl (fun hc12 => ?_) (fun hc12 => ?_)
       ·skip
        refine cw_skip (nrm_same ?_); refine ⟨(decide (x.kind = 11)), ⟨rfl, trivial⟩, ⟨rfl, rfl, rfl, rfl, rfl, rfl, trivial⟩, (Evo.refl [] w37), ?_⟩
        simp only [decide_eq_true_eq]; omega
       ·skip
        refine cw_seq ?_; refine cw_region ?_; refine wl_val rfl (ex_eql rfl rfl) ?_; refine wl_a ?_; refine wl_nil (nrm_then ?_); refine cw_if rfl (fun hc12 => ?_) (fun hc12 => ?_)
        ·skip
         refine cw_skip (nrm_same ?_); refine ⟨(decide (x.kind = 12)), ⟨rfl, trivial⟩, ⟨rfl, rfl, rfl, rfl, rfl, rfl, trivial⟩, (Evo.refl [] w37), ?_⟩
         simp only [decide_eq_true_eq]; omega
        ·skip
         refine cw_region ?_; refine wl_val rfl (ex_eql rfl rfl) ?_; refine wl_a ?_; refine wl_nil (nrm_same ?_); refine ⟨(decide (x.kind = 13)), ⟨rfl, trivial⟩, ⟨rfl, rfl, rfl, rfl, rfl, rfl, trivial⟩, (Evo.refl [] w37), ?_⟩
         simp only [decide_eq_true_eq]; omega
  ·skip
   rintro z w44 ⟨hV45, hz⟩; refine nrm_then ?_; show CW _ _ _ _ [(12, _), (0, _), (3, _), (4, _), (5, _), (6, _), (11, _)] _; have hE46 := hE40.then hV45; have hB47 := hV45.blk0 hB41; have hO48 := hO42.evo0 hV45; have hB49 := hV45.blk0 hB43; have hB50 := hV45.blk0 hB38; refine cw_ifb rfl (fun hc12 => ?_) (fun hc12 => ?_)
   ·skip
    subst hc12; have hk12 := hz.1 rfl; refine cw_skip (nrm_block (nrm_then ?_)); refine cw_seq ?_; refine cw_region ?_; refine wl_val rfl (ex_fieldAddr rfl Tryz.fld25_8) ?_; refine wl_val rfl (ex_load1 rfl Tryz.agg23 (cell_nth hB49 rfl)) ?_; refine wl_val rfl (ex_len_slice rfl Tryz.underlying23 rfl) ?_; refine wl_m ?_; refine wl_val rfl (ex_eql rfl rfl) ?_; refine wl_m ?_; refine wl_split (t := 91) rfl (fun hs91 => ?_) (fun hs91 => ?_)
    ·skip
     refine wl_g ?_; refine wl_val rfl (ex_fieldAddr rfl Tryz.fld25_1) ?_; refine wl_g ?_; refine wl_val rfl (ex_load1 rfl Tryz.agg21 (cell_nth hB50 rfl)) ?_; refine wl_g ?_; refine wl_val rfl (ex_eql rfl rfl) ?_; refine wl_pt ?_; refine wl_m ?_; refine wl_split (t := 96) rfl (fun hs96 => ?_) (fun hs96 => ?_)
     ·skip
      refine wl_g ?_; refine wl_val rfl (ex_fieldAddr rfl Tryz.fld25_2) ?_; refine wl_g ?_; refine wl_val rfl (ex_load1 rfl Tryz.agg22 (cell_nth hB50 rfl)) ?_; refine wl_g ?_; refine wl_val rfl (ex_len_slice rfl Tryz.underlying22 rfl) ?_; refine wl_g ?_; refine wl_val rfl (ex_eql rfl rfl) ?_; refine wl_pt ?_; refine wl_m ?_; refine wl_split (t := 102) rfl (fun hs102 => ?_) (fun hs102 => ?_)
      ·skip
       refine wl_g ?_; refine wl_val rfl (ex_fieldAddr rfl Tryz.fld25_3) ?_; refine wl_g ?_; refine wl_val rfl (ex_load1 rfl Tryz.agg3 (cell_nth hB50 rfl)) ?_; refine wl_g ?_; refine wl_val rfl (ex_eql rfl rfl) ?_; refine wl_pt ?_; refine wl_m ?_; refine wl_split (t := 107) rfl (fun hs107 => ?_) (fun hs107 => ?_)
       ·skip
        refine wl_g ?_; refine wl_val rfl (ex_fieldAddr rfl Tryz.fld25_4) ?_; refine wl_g ?_; refine wl_val rfl (ex_load1 rfl Tryz.agg3 (cell_nth hB50 rfl)) ?_; refine wl_g ?_; refine wl_val rfl (ex_eql rfl rfl) ?_; refine wl_pt ?_; refine wl_m ?_; refine wl_split (t := 112) rfl (fun hs112 => ?_) (fun hs112 => ?_)
        ·skip
         refine wl_g ?_; refine wl_val rfl (ex_fieldAddr rfl Tryz.fld25_5) ?_; refine wl_g ?_; refine wl_val rfl (ex_load1 rfl Tryz.agg4 (cell_nth hB50 rfl)) ?_; refine wl_g ?_; refine wl_val rfl (ex_notb rfl) ?_; refine wl_pt ?_; refine wl_m ?_; refine wl_splitb (t := 117) rfl (fun hs117 => ?_) (fun hs117 => ?_)
         ·skip
          refine wl_g ?_; refine wl_val rfl (ex_fieldAddr rfl Tryz.fld25_6) ?_; refine wl_g ?_; refine wl_val rfl (ex_load1 rfl Tryz.agg3 (cell_nth hB50 rfl)) ?_; refine wl_g ?_; refine wl_val rfl (ex_eql rfl rfl) ?_; refine wl_pt ?_; refine wl_m ?_; refine wl_split (t := 122) rfl (fun hs122 => ?_) (fun hs122 => ?_)
          ·skip
           refine wl_g ?_; refine wl_val rfl (ex_fieldAddr rfl Tryz.fld25_7) ?_; refine wl_g ?_; refine wl_val rfl (ex_load1 rfl Tryz.agg9 (cell_nth hB50 rfl)) ?_; refine wl_g ?_; refine wl_val rfl (ex_eqs rfl rfl) ?_; refine wl_pt ?_; refine wl_a ?_; refine wl_nil (nrm_then ?_); refine cw_ret (body_ret1 rfl rfl ?_)
           have hlz : x.kind = 6 ∨ x.lazy = false := by first | (left; omega) | (right; simpa using hs117)
           refine ⟨_, rfl, ?_, hE46, fun hb => ?_⟩
           · simp only [decide_eq_true_eq]
             constructor
             · intro hnm
               exact ⟨(nodeP_iff x).2 (by constructor <;> first | omega | (right; assumption) | (left; omega) | exact hlz | exact .inr hnm | (intro hk; exact hcb.1 (by simpa using hc36)) | (intro hk; exfalso; omega)), by intro hk; exfalso; omega⟩
             · intro hh; obtain ⟨hh, hh2⟩ := hh; have hf := (nodeP_iff x).1 hh; exact hf.zn.resolve_left (by omega)
           · rw [if_neg (by omega)]; exact ⟨a, c, ob, ⟨hB47, hO48, hne⟩, .inl rfl⟩
          ·skip
           refine wl_n ?_; refine wl_n ?_; refine wl_n ?_; refine wl_pf ?_; refine wl_a ?_; refine wl_nil (nrm_then ?_); refine cw_ret (body_ret1 rfl rfl ?_)
           exact ⟨false, rfl, by simp only [Bool.false_eq_true, false_iff]; intro hh; obtain ⟨hh, hh2⟩ := hh; have hf := (nodeP_iff x).1 hh; (have f1 := hf.zc; omega), hE46, fun h => by cases h⟩
         ·skip
          refine wl_n ?_; refine wl_n ?_; refine wl_n ?_; refine wl_pf ?_; refine wl_m ?_; refine wl_n ?_; refine wl_n ?_; refine wl_n ?_; refine wl_pf ?_; refine wl_a ?_; refine wl_nil (nrm_then ?_); refine cw_ret (body_ret1 rfl rfl ?_)
          exact ⟨false, rfl, by simp only [Bool.false_eq_true, false_iff]; intro hh; obtain ⟨hh, hh2⟩ := hh; have hf := (nodeP_iff x).1 hh; (first | (rcases hf.zl with h | h; omega; rw [h] at hs117; cases hs117; done) | cases hs117), hE46, fun h => by cases h⟩
        ·skip
         refine wl_n ?_; refine wl_n ?_; refine wl_n ?_; refine wl_pf ?_; refine wl_m ?_; refine wl_n ?_; refine wl_n ?_; refine wl_n ?_; refine wl_pf ?_; refine wl_m ?_; refine wl_n ?_; refine wl_n ?_; refine wl_n ?_; refine wl_pf ?_; refine wl_a ?_; refine wl_nil (nrm_then ?_); refine cw_ret (body_ret1 rfl rfl ?_)
         exact ⟨false, rfl, by simp only [Bool.false_eq_true, false_iff]; intro hh; obtain ⟨hh, hh2⟩ := hh; have hf := (nodeP_iff x).1 hh; (have f1 := hf.zm2; omega), hE46, fun h => by cases h⟩
       ·skip
        refine wl_n ?_; refine wl_n ?_; refine wl_n ?_; refine wl_pf ?_; refine wl_m ?_; refine wl_n ?_; refine wl_n ?_; refine wl_n ?_; refine wl_pf ?_; refine wl_m ?_; refine wl_n ?_; refine wl_n ?_; refine wl_n ?_; refine wl_pf ?_; refine wl_m ?_; refine wl_n ?_; refine wl_n ?_; refine wl_n ?_; refine wl_pf ?_; refine wl_a ?_; refine wl_nil (nrm_then ?_); refine cw_ret (body_ret1 rfl rfl ?_)
        exact ⟨false, rfl, by simp only [Bool.false_eq_true, false_iff]; intro hh; obtain ⟨hh, hh2⟩ := hh; have hf := (nodeP_iff x).1 hh; (have f1 := hf.zm1; omega), hE46, fun h => by cases h⟩
      ·skip
       refine wl_n ?_; refine wl_n ?_; refine wl_n ?_; refine wl_pf ?_; refine wl_m ?_; refine wl_n ?_; refine wl_n ?_; refine wl_n ?_; refine wl_pf ?_; refine wl_m ?_; refine wl_n ?_; refine wl_n ?_; refine wl_n ?_; refine wl_pf ?_; refine wl_m ?_; refine wl_n ?_; refine wl_n ?_; refine wl_n ?_; refine wl_pf ?_; refine wl_m ?_; refine wl_n ?_; refine wl_n ?_; refine wl_n ?_; refine wl_pf ?_; refine wl_a ?_; refine wl_nil (nrm_then ?_); refine cw_ret (body_ret1 rfl rfl ?_)
       exact ⟨false, rfl, by simp only [Bool.false_eq_true, false_iff]; intro hh; obtain ⟨hh, hh2⟩ := hh; have hf := (nodeP_iff x).1 hh; (have f1 := hf.zg; omega), hE46, fun h => by cases h⟩
     ·skip
      refine wl_n ?_; refine wl_n ?_; refine wl_n ?_; refine wl_n ?_; refine wl_pf ?_; refine wl_m ?_; refine wl_n ?_; refine wl_n ?_; refine wl_n ?_; refine wl_pf ?_; refine wl_m ?_; refine wl_n ?_; refine wl_n ?_; refine wl_n ?_; refine wl_pf ?_; refine wl_m ?_; refine wl_n ?_; refine wl_n ?_; refine wl_n ?_; refine wl_pf ?_; refine wl_m ?_; refine wl_n ?_; refine wl_n ?_; refine wl_n ?_; refine wl_pf ?_; refine wl_m ?_; refine wl_n ?_; refine wl_n ?_; refine wl_n ?_; refine wl_pf ?_; refine wl_a ?_; refine wl_nil (nrm_then ?_); refine cw_ret (body_ret1 rfl rfl ?_)
      exact ⟨false, rfl, by simp only [Bool.false_eq_true, false_iff]; intro hh; obtain ⟨hh, hh2⟩ := hh; have hf := (nodeP_iff x).1 hh; (have f1 := hf.zr; omega), hE46, fun h => by cases h⟩
    ·skip
     refine wl_n ?_; refine wl_n ?_; refine wl_n ?_; refine wl_pf ?_; refine wl_m ?_; refine wl_n ?_; refine wl_n ?_; refine wl_n ?_; refine wl_n ?_; refine wl_pf ?_; refine wl_m ?_; refine wl_n ?_; refine wl_n ?_; refine wl_n ?_; refine wl_pf ?_; refine wl_m ?_; refine wl_n ?_; refine wl_n ?_; refine wl_n ?_; refine wl_pf ?_; refine wl_m ?_; refine wl_n ?_; refine wl_n ?_; refine wl_n ?_; refine wl_pf ?_; refine wl_m ?_; refine wl_n ?_; refine wl_n ?_; refine wl_n ?_; refine wl_pf ?_; refine wl_m ?_; refine wl_n ?_; refine wl_n ?_; refine wl_n ?_; refine wl_pf ?_; refine wl_a ?_; refine wl_nil (nrm_then ?_); refine cw_ret (body_ret1 rfl rfl ?_)
     exact ⟨false, rfl, by simp only [Bool.false_eq_true, false_iff]; intro hh; obtain ⟨hh, hh2⟩ := hh; have hf := (nodeP_iff x).1 hh; (have f1 := hf.two; have f2 := hf.rep4; have f3 := hf.grp; have f4 := hf.leaf; omega), hE46, fun h => by cases h⟩
   ·skip
    subst hc12
    have hk12 : ¬ (x.kind = 1 ∨ (8 ≤ x.kind ∧ x.kind ≤ 13)) := fun h => by have := hz.2 h; cases this
    refine cw_seq ?_; refine cw_region ?_; refine wl_val rfl (ex_eql rfl rfl) ?_; refine wl_a ?_; refine wl_nil (nrm_then ?_); refine cw_if rfl (fun hc20 => ?_) (fun hc20 => ?_)
    ·skip
     refine cw_seq ?_; refine cw_seq ?_; refine cw_region ?_; refine wl_val rfl (ex_fieldAddr rfl Tryz.fld25_1) ?_; refine wl_val rfl (ex_load1 rfl Tryz.agg21 (cell_nth hB49 rfl)) ?_; refine wl_val rfl (ex_lss rfl rfl) ?_; refine wl_m ?_; refine wl_split (t := 25) rfl (fun hs25 => ?_) (fun hs25 => ?_)
     ·skip
      refine wl_n ?_; refine wl_n ?_; refine wl_n ?_; refine wl_pt ?_; refine wl_nil (nrm_then ?_); refine cw_true rfl ?_; refine cw_seq ?_; refine cw_region ?_; refine wl_a ?_; refine wl_nil (nrm_then ?_); refine cw_ret (ret_then (ret_block (ret_then (body_ret1 rfl rfl ?_))))
      exact ⟨false, rfl, by simp only [Bool.false_eq_true, false_iff]; intro hh; obtain ⟨hh, hh2⟩ := hh; have hf := (nodeP_iff x).1 hh; (have f1 := hf.lit1; have f2 := hf.lit2; omega), hE46, fun h => by cases h⟩
     ·skip
      refine wl_g ?_; refine wl_val rfl (ex_fieldAddr rfl Tryz.fld25_1) ?_; refine wl_g ?_; refine wl_val rfl (ex_load1 rfl Tryz.agg21 (cell_nth hB49 rfl)) ?_; refine wl_g ?_; refine wl_val rfl (ex_gtr rfl rfl) ?_; refine wl_pf ?_; refine wl_nil (nrm_then ?_); refine cw_if rfl (fun hc29 => ?_) (fun hc29 => ?_)
      ·skip
       refine cw_seq ?_; refine cw_region ?_; refine wl_a ?_; refine wl_nil (nrm_then ?_); refine cw_ret (ret_then (ret_block (ret_then (body_ret1 rfl rfl ?_))))
       exact ⟨false, rfl, by simp only [Bool.false_eq_true, false_iff]; intro hh; obtain ⟨hh, hh2⟩ := hh; have hf := (nodeP_iff x).1 hh; (have f1 := hf.lit1; have f2 := hf.lit2; omega), hE46, fun h => by cases h⟩
      ·skip
       refine cw_skip (nrm_then ?_); refine cw_region ?_; refine wl_val rfl (ex_fieldAddr rfl Tryz.fld25_1) ?_; refine wl_store1 rfl rfl (by first | rfl | assumption) Tryz.size21 hB50 rfl fun w51 hB52 hw53 => ?_; have hE54 := hE46.step hw53 hG18.mem1; have hB55 := hw53.blk hB47 hA15.nmem1; have hO56 := hO48.evo hw53 hA16.own1; have hB57 := hw53.blk hB49 hA17.nmem1
       try simp only [List.setIfInBounds_toArray, List.set_cons_zero, List.set_cons_succ, Nat.reduceAdd, Nat.zero_add, Nat.add_zero] at hB52
       refine wl_nil (nrm_block (nrm_then ?_)); refine cw_seq ?_; refine cw_region ?_; refine wl_val rfl (ex_fieldAddr rfl Tryz.fld25_8) ?_; refine wl_val rfl (ex_load1 rfl Tryz.agg23 (cell_nth hB57 rfl)) ?_; refine wl_val rfl (ex_len_slice rfl Tryz.underlying23 rfl) ?_; refine wl_m ?_; refine wl_val rfl (ex_eql rfl rfl) ?_; refine wl_m ?_; refine wl_split (t := 91) rfl (fun hs91 => ?_) (fun hs91 => ?_)
       ·skip
        refine wl_g ?_; refine wl_val rfl (ex_fieldAddr rfl Tryz.fld25_1) ?_; refine wl_g ?_; refine wl_val rfl (ex_load1 rfl Tryz.agg21 (cell_nth hB52 rfl)) ?_; refine wl_g ?_; refine wl_val rfl (ex_eql rfl rfl) ?_; refine wl_pt ?_; refine wl_m ?_; refine wl_split (t := 96) rfl (fun hs96 => ?_) (fun hs96 => ?_)
        ·skip
         refine wl_g ?_; refine wl_val rfl (ex_fieldAddr rfl Tryz.fld25_2) ?_; refine wl_g ?_; refine wl_val rfl (ex_load1 rfl Tryz.agg22 (cell_nth hB52 rfl)) ?_; refine wl_g ?_; refine wl_val rfl (ex_len_slice rfl Tryz.underlying22 rfl) ?_; refine wl_g ?_; refine wl_val rfl (ex_eql rfl rfl) ?_; refine wl_pt ?_; refine wl_m ?_; refine wl_split (t := 102) rfl (fun hs102 => ?_) (fun hs102 => ?_)
         ·skip
          refine wl_g ?_; refine wl_val rfl (ex_fieldAddr rfl Tryz.fld25_3) ?_; refine wl_g ?_; refine wl_val rfl (ex_load1 rfl Tryz.agg3 (cell_nth hB52 rfl)) ?_; refine wl_g ?_; refine wl_val rfl (ex_eql rfl rfl) ?_; refine wl_pt ?_; refine wl_m ?_; refine wl_split (t := 107) rfl (fun hs107 => ?_) (fun hs107 => ?_)
          ·skip
           refine wl_g ?_; refine wl_val rfl (ex_fieldAddr rfl Tryz.fld25_4) ?_; refine wl_g ?_; refine wl_val rfl (ex_load1 rfl Tryz.agg3 (cell_nth hB52 rfl)) ?_; refine wl_g ?_; refine wl_val rfl (ex_eql rfl rfl) ?_; refine wl_pt ?_; refine wl_m ?_; refine wl_split (t := 112) rfl (fun hs112 => ?_) (fun hs112 => ?_)
           ·skip
            refine wl_g ?_; refine wl_val rfl (ex_fieldAddr rfl Tryz.fld25_5) ?_; refine wl_g ?_; refine wl_val rfl (ex_load1 rfl Tryz.agg4 (cell_nth hB52 rfl)) ?_; refine wl_g ?_; refine wl_val rfl (ex_notb rfl) ?_; refine wl_pt ?_; refine wl_m ?_; refine wl_splitb (t := 117) rfl (fun hs117 => ?_) (fun hs117 => ?_)
            ·skip
             refine wl_g ?_; refine wl_val rfl (ex_fieldAddr rfl Tryz.fld25_6) ?_; refine wl_g ?_; refine wl_val rfl (ex_load1 rfl Tryz.agg3 (cell_nth hB52 rfl)) ?_; refine wl_g ?_; refine wl_val rfl (ex_eql rfl rfl) ?_; refine wl_pt ?_; refine wl_m ?_; refine wl_split (t := 122) rfl (fun hs122 => ?_) (fun hs122 => ?_)
             ·skip
              refine wl_g ?_; refine wl_val rfl (ex_fieldAddr rfl Tryz.fld25_7) ?_; refine wl_g ?_; refine wl_val rfl (ex_load1 rfl Tryz.agg9 (cell_nth hB52 rfl)) ?_; refine wl_g ?_; refine wl_val rfl (ex_eqs rfl rfl) ?_; refine wl_pt ?_; refine wl_a ?_; refine wl_nil (nrm_then ?_); refine cw_ret (body_ret1 rfl rfl ?_)
              have hlz : x.kind = 6 ∨ x.lazy = false := by first | (left; omega) | (right; simpa using hs117)
              refine ⟨_, rfl, ?_, hE54, fun hb => ?_⟩
              · simp only [decide_eq_true_eq]
                constructor
                · intro hnm
                  exact ⟨(nodeP_iff x).2 (by constructor <;> first | omega | (right; assumption) | (left; omega) | exact hlz | exact .inr hnm | (intro hk; exact hcb.1 (by simpa using hc36)) | (intro hk; exfalso; omega)), by intro hk; exfalso; omega⟩
                · intro hh; obtain ⟨hh, hh2⟩ := hh; have hf := (nodeP_iff x).1 hh; exact hf.zn.resolve_left (by omega)
              · rw [if_neg (by omega)]; exact ⟨a, c, ob, ⟨hB55, hO56, hne⟩, .inl rfl⟩
             ·skip
              refine wl_n ?_; refine wl_n ?_; refine wl_n ?_; refine wl_pf ?_; refine wl_a ?_; refine wl_nil (nrm_then ?_); refine cw_ret (body_ret1 rfl rfl ?_)
              exact ⟨false, rfl, by simp only [Bool.false_eq_true, false_iff]; intro hh; obtain ⟨hh, hh2⟩ := hh; have hf := (nodeP_iff x).1 hh; (have f1 := hf.zc; omega), hE54, fun h => by cases h⟩
            ·skip
             refine wl_n ?_; refine wl_n ?_; refine wl_n ?_; refine wl_pf ?_; refine wl_m ?_; refine wl_n ?_; refine wl_n ?_; refine wl_n ?_; refine wl_pf ?_; refine wl_a ?_; refine wl_nil (nrm_then ?_); refine cw_ret (body_ret1 rfl rfl ?_)
             exact ⟨false, rfl, by simp only [Bool.false_eq_true, false_iff]; intro hh; obtain ⟨hh, hh2⟩ := hh; have hf := (nodeP_iff x).1 hh; (first | (rcases hf.zl with h | h; omega; rw [h] at hs117; cases hs117; done) | cases hs117), hE54, fun h => by cases h⟩
           ·skip
            refine wl_n ?_; refine wl_n ?_; refine wl_n ?_; refine wl_pf ?_; refine wl_m ?_; refine wl_n ?_; refine wl_n ?_; refine wl_n ?_; refine wl_pf ?_; refine wl_m ?_; refine wl_n ?_; refine wl_n ?_; refine wl_n ?_; refine wl_pf ?_; refine wl_a ?_; refine wl_nil (nrm_then ?_); refine cw_ret (body_ret1 rfl rfl ?_)
            exact ⟨false, rfl, by simp only [Bool.false_eq_true, false_iff]; intro hh; obtain ⟨hh, hh2⟩ := hh; have hf := (nodeP_iff x).1 hh; (have f1 := hf.zm2; omega), hE54, fun h => by cases h⟩
          ·skip
           refine wl_n ?_; refine wl_n ?_; refine wl_n ?_; refine wl_pf ?_; refine wl_m ?_; refine wl_n ?_; refine wl_n ?_; refine wl_n ?_; refine wl_pf ?_; refine wl_m ?_; refine wl_n ?_; refine wl_n ?_; refine wl_n ?_; refine wl_pf ?_; refine wl_m ?_; refine wl_n ?_; refine wl_n ?_; refine wl_n ?_; refine wl_pf ?_; refine wl_a ?_; refine wl_nil (nrm_then ?_); refine cw_ret (body_ret1 rfl rfl ?_)
           exact ⟨false, rfl, by simp only [Bool.false_eq_true, false_iff]; intro hh; obtain ⟨hh, hh2⟩ := hh; have hf := (nodeP_iff x).1 hh; (have f1 := hf.zm1; omega), hE54, fun h => by cases h⟩
         ·skip
          refine wl_n ?_; refine wl_n ?_; refine wl_n ?_; refine wl_pf ?_; refine wl_m ?_; refine wl_n ?_; refine wl_n ?_; refine wl_n ?_; refine wl_pf ?_; refine wl_m ?_; refine wl_n ?_; refine wl_n ?_; refine wl_n ?_; refine wl_pf ?_; refine wl_m ?_; refine wl_n ?_; refine wl_n ?_; refine wl_n ?_; refine wl_pf ?_; refine wl_m ?_; refine wl_n ?_; refine wl_n ?_; refine wl_n ?_; refine wl_pf ?_; refine wl_a ?_; refine wl_nil (nrm_then ?_); refine cw_ret (body_ret1 rfl rfl ?_)
          exact ⟨false, rfl, by simp only [Bool.false_eq_true, false_iff]; intro hh; obtain ⟨hh, hh2⟩ := hh; have hf := (nodeP_iff x).1 hh; (have f1 := hf.zg; omega), hE54, fun h => by cases h⟩
        ·skip
         refine wl_n ?_; refine wl_n ?_; refine wl_n ?_; refine wl_n ?_; refine wl_pf ?_; refine wl_m ?_; refine wl_n ?_; refine wl_n ?_; refine wl_n ?_; refine wl_pf ?_; refine wl_m ?_; refine wl_n ?_; refine wl_n ?_; refine wl_n ?_; refine wl_pf ?_; refine wl_m ?_; refine wl_n ?_; refine wl_n ?_; refine wl_n ?_; refine wl_pf ?_; refine wl_m ?_; refine wl_n ?_; refine wl_n ?_; refine wl_n ?_; refine wl_pf ?_; refine wl_m ?_; refine wl_n ?_; refine wl_n ?_; refine wl_n ?_; refine wl_pf ?_; refine wl_a ?_; refine wl_nil (nrm_then ?_); refine cw_ret (body_ret1 rfl rfl ?_)
         exact ⟨false, rfl, by simp only [Bool.false_eq_true, false_iff]; intro hh; obtain ⟨hh, hh2⟩ := hh; have hf := (nodeP_iff x).1 hh; (have f1 := hf.zr; omega), hE54, fun h => by cases h⟩
       ·skip
        refine wl_n ?_; refine wl_n ?_; refine wl_n ?_; refine wl_pf ?_; refine wl_m ?_; refine wl_n ?_; refine wl_n ?_; refine wl_n ?_; refine wl_n ?_; refine wl_pf ?_; refine wl_m ?_; refine wl_n ?_; refine wl_n ?_; refine wl_n ?_; refine wl_pf ?_; refine wl_m ?_; refine wl_n ?_; refine wl_n ?_; refine wl_n ?_; refine wl_pf ?_; refine wl_m ?_; refine wl_n ?_; refine wl_n ?_; refine wl_n ?_; refine wl_pf ?_; refine wl_m ?_; refine wl_n ?_; refine wl_n ?_; refine wl_n ?_; refine wl_pf ?_; refine wl_m ?_; refine wl_n ?_; refine wl_n ?_; refine wl_n ?_; refine wl_pf ?_; refine wl_a ?_; refine wl_nil (nrm_then ?_); refine cw_ret (body_ret1 rfl rfl ?_)
        exact ⟨false, rfl, by simp only [Bool.false_eq_true, false_iff]; intro hh; obtain ⟨hh, hh2⟩ := hh; have hf := (nodeP_iff x).1 hh; (have f1 := hf.two; have f2 := hf.rep4; have f3 := hf.grp; have f4 := hf.leaf; omega), hE54, fun h => by cases h⟩
    ·skip
     refine cw_seq ?_; refine cw_region ?_; refine wl_val rfl (ex_eql rfl rfl) ?_; refine wl_a ?_; refine wl_nil (nrm_then ?_); refine cw_if rfl (fun hc31 => ?_) (fun hc31 => ?_)
     ·skip
      refine cw_seq ?_; refine cw_seq ?_; refine cw_region ?_; refine wl_val rfl (ex_fieldAddr rfl Tryz.fld25_2) ?_; refine wl_val rfl (ex_load1 rfl Tryz.agg22 (cell_nth hB49 rfl)) ?_; refine wl_call1 (vs := [_]) Tryz.goes166 rfl (classFine_ok (RSl.evo RRg.pers hE46 hr0) bl1) rfl ?_; rintro _ w58 ⟨cb, rfl, hcb, hw59⟩; have hE60 := hE46.then hw59; have hB61 := hw59.blk0 hB47; have hO62 := hO48.evo0 hw59; have hB63 := hw59.blk0 hB49; have hB64 := hw59.blk0 hB50; refine wl_val rfl (ex_notb rfl) ?_; refine wl_nil (nrm_then ?_); refine cw_ifb rfl (fun hc36 => ?_) (fun hc36 => ?_)
      ·skip
       refine cw_seq ?_; refine cw_region ?_; refine wl_a ?_; refine wl_nil (nrm_then ?_); refine cw_ret (ret_then (ret_block (ret_then (body_ret1 rfl rfl ?_))))
       exact ⟨false, rfl, by simp only [Bool.false_eq_true, false_iff]; intro hh; obtain ⟨hh, hh2⟩ := hh; have hf := (nodeP_iff x).1 hh; (rw [hcb.2 (hf.cls (by omega))] at hc36; cases hc36), hE60, fun h => by cases h⟩
      ·skip
       refine cw_skip (nrm_then ?_); refine cw_region ?_; refine wl_val rfl (ex_fieldAddr rfl Tryz.fld25_2) ?_; refine wl_store1 rfl rfl (by first | rfl | assumption) Tryz.size22 hB64 rfl fun w65 hB66 hw67 => ?_; have hE68 := hE60.step hw67 hG18.mem1; have hB69 := hw67.blk hB61 hA15.nmem1; have hO70 := hO62.evo hw67 hA16.own1; have hB71 := hw67.blk hB63 hA17.nmem1
       try simp only [List.setIfInBounds_toArray, List.set_cons_zero, List.set_cons_succ, Nat.reduceAdd, Nat.zero_add, Nat.add_zero] at hB66
       refine wl_nil (nrm_block (nrm_then ?_)); refine cw_seq ?_; refine cw_region ?_; refine wl_val rfl (ex_fieldAddr rfl Tryz.fld25_8) ?_; refine wl_val rfl (ex_load1 rfl Tryz.agg23 (cell_nth hB71 rfl)) ?_; refine wl_val rfl (ex_len_slice rfl Tryz.underlying23 rfl) ?_; refine wl_m ?_; refine wl_val rfl (ex_eql rfl rfl) ?_; refine wl_m ?_; refine wl_split (t := 91) rfl (fun hs91 => ?_) (fun hs91 => ?_)
       ·skip
        refine wl_g ?_; refine wl_val rfl (ex_fieldAddr rfl Tryz.fld25_1) ?_; refine wl_g ?_; refine wl_val rfl (ex_load1 rfl Tryz.agg21 (cell_nth hB66 rfl)) ?_; refine wl_g ?_; refine wl_val rfl (ex_eql rfl rfl) ?_; refine wl_pt ?_; refine wl_m ?_; refine wl_split (t := 96) rfl (fun hs96 => ?_) (fun hs96 => ?_)
        ·skip
         refine wl_g ?_; refine wl_val rfl (ex_fieldAddr rfl Tryz.fld25_2) ?_; refine wl_g ?_; refine wl_val rfl (ex_load1 rfl Tryz.agg22 (cell_nth hB66 rfl)) ?_; refine wl_g ?_; refine wl_val rfl (ex_len_slice rfl Tryz.underlying22 rfl) ?_; refine wl_g ?_; refine wl_val rfl (ex_eql rfl rfl) ?_; refine wl_pt ?_; refine wl_m ?_; refine wl_split (t := 102) rfl (fun hs102 => ?_) (fun hs102 => ?_)
         ·skip
          refine wl_g ?_; refine wl_val rfl (ex_fieldAddr rfl Tryz.fld25_3) ?_; refine wl_g ?_; refine wl_val rfl (ex_load1 rfl Tryz.agg3 (cell_nth hB66 rfl)) ?_; refine wl_g ?_; refine wl_val rfl (ex_eql rfl rfl) ?_; refine wl_pt ?_; refine wl_m ?_; refine wl_split (t := 107) rfl (fun hs107 => ?_) (fun hs107 => ?_)
          ·skip
           refine wl_g ?_; refine wl_val rfl (ex_fieldAddr rfl Tryz.fld25_4) ?_; refine wl_g ?_; refine wl_val rfl (ex_load1 rfl Tryz.agg3 (cell_nth hB66 rfl)) ?_; refine wl_g ?_; refine wl_val rfl (ex_eql rfl rfl) ?_; refine wl_pt ?_; refine wl_m ?_; refine wl_split (t := 112) rfl (fun hs112 => ?_) (fun hs112 => ?_)
           ·skip
            refine wl_g ?_; refine wl_val rfl (ex_fieldAddr rfl Tryz.fld25_5) ?_; refine wl_g ?_; refine wl_val rfl (ex_load1 rfl Tryz.agg4 (cell_nth hB66 rfl)) ?_; refine wl_g ?_; refine wl_val rfl (ex_notb rfl) ?_; refine wl_pt ?_; refine wl_m ?_; refine wl_splitb (t := 117) rfl (fun hs117 => ?_) (fun hs117 => ?_)
            ·skip
             refine wl_g ?_; refine wl_val rfl (ex_fieldAddr rfl Tryz.fld25_6) ?_; refine wl_g ?_; refine wl_val rfl (ex_load1 rfl Tryz.agg3 (cell_nth hB66 rfl)) ?_; refine wl_g ?_; refine wl_val rfl (ex_eql rfl rfl) ?_; refine wl_pt ?_; refine wl_m ?_; refine wl_split (t := 122) rfl (fun hs122 => ?_) (fun hs122 => ?_)
             ·skip
              refine wl_g ?_; refine wl_val rfl (ex_fieldAddr rfl Tryz.fld25_7) ?_; refine wl_g ?_; refine wl_val rfl (ex_load1 rfl Tryz.agg9 (cell_nth hB66 rfl)) ?_; refine wl_g ?_; refine wl_val rfl (ex_eqs rfl rfl) ?_; refine wl_pt ?_; refine wl_a ?_; refine wl_nil (nrm_then ?_); refine cw_ret (body_ret1 rfl rfl ?_)
              have hlz : x.kind = 6 ∨ x.lazy = false := by first | (left; omega) | (right; simpa using hs117)
              refine ⟨_, rfl, ?_, hE68, fun hb => ?_⟩
              · simp only [decide_eq_true_eq]
                constructor
                · intro hnm
                  exact ⟨(nodeP_iff x).2 (by constructor <;> first | omega | (right; assumption) | (left; omega) | exact hlz | exact .inr hnm | (intro hk; exact hcb.1 (by simpa using hc36)) | (intro hk; exfalso; omega)), by intro hk; exfalso; omega⟩
                · intro hh; obtain ⟨hh, hh2⟩ := hh; have hf := (nodeP_iff x).1 hh; exact hf.zn.resolve_left (by omega)
              · rw [if_neg (by omega)]; exact ⟨a, c, ob, ⟨hB69, hO70, hne⟩, .inl rfl⟩
             ·skip
              refine wl_n ?_; refine wl_n ?_; refine wl_n ?_; refine wl_pf ?_; refine wl_a ?_; refine wl_nil (nrm_then ?_); refine cw_ret (body_ret1 rfl rfl ?_)
              exact ⟨false, rfl, by simp only [Bool.false_eq_true, false_iff]; intro hh; obtain ⟨hh, hh2⟩ := hh; have hf := (nodeP_iff x).1 hh; (have f1 := hf.zc; omega), hE68, fun h => by cases h⟩
            ·skip
             refine wl_n ?_; refine wl_n ?_; refine wl_n ?_; refine wl_pf ?_; refine wl_m ?_; refine wl_n ?_; refine wl_n ?_; refine wl_n ?_; refine wl_pf ?_; refine wl_a ?_; refine wl_nil (nrm_then ?_); refine cw_ret (body_ret1 rfl rfl ?_)
             exact ⟨false, rfl, by simp only [Bool.false_eq_true, false_iff]; intro hh; obtain ⟨hh, hh2⟩ := hh; have hf := (nodeP_iff x).1 hh; (first | (rcases hf.zl with h | h; omega; rw [h] at hs117; cases hs117; done) | cases hs117), hE68, fun h => by cases h⟩
           ·skip
            refine wl_n ?_; refine wl_n ?_; refine wl_n ?_; refine wl_pf ?_; refine wl_m ?_; refine wl_n ?_; refine wl_n ?_; refine wl_n ?_; refine wl_pf ?_; refine wl_m ?_; refine wl_n ?_; refine wl_n ?_; refine wl_n ?_; refine wl_pf ?_; refine wl_a ?_; refine wl_nil (nrm_then ?_); refine cw_ret (body_ret1 rfl rfl ?_)
            exact ⟨false, rfl, by simp only [Bool.false_eq_true, false_iff]; intro hh; obtain ⟨hh, hh2⟩ := hh; have hf := (nodeP_iff x).1 hh; (have f1 := hf.zm2; omega), hE68, fun h => by cases h⟩
          ·skip
           refine wl_n ?_; refine wl_n ?_; refine wl_n ?_; refine wl_pf ?_; refine wl_m ?_; refine wl_n ?_; refine wl_n ?_; refine wl_n ?_; refine wl_pf ?_; refine wl_m ?_; refine wl_n ?_; refine wl_n ?_; refine wl_n ?_; refine wl_pf ?_; refine wl_m ?_; refine wl_n ?_; refine wl_n ?_; refine wl_n ?_; refine wl_pf ?_; refine wl_a ?_; refine wl_nil (nrm_then ?_); refine cw_ret (body_ret1 rfl rfl ?_)
           exact ⟨false, rfl, by simp only [Bool.false_eq_true, false_iff]; intro hh; obtain ⟨hh, hh2⟩ := hh; have hf := (nodeP_iff x).1 hh; (have f1 := hf.zm1; omega), hE68, fun h => by cases h⟩
         ·skip
          refine wl_n ?_; refine wl_n ?_; refine wl_n ?_; refine wl_pf ?_; refine wl_m ?_; refine wl_n ?_; refine wl_n ?_; refine wl_n ?_; refine wl_pf ?_; refine wl_m ?_; refine wl_n ?_; refine wl_n ?_; refine wl_n ?_; refine wl_pf ?_; refine wl_m ?_; refine wl_n ?_; refine wl_n ?_; refine wl_n ?_; refine wl_pf ?_; refine wl_m ?_; refine wl_n ?_; refine wl_n ?_; refine wl_n ?_; refine wl_pf ?_; refine wl_a ?_; refine wl_nil (nrm_then ?_); refine cw_ret (body_ret1 rfl rfl ?_)
          exact ⟨false, rfl, by simp only [Bool.false_eq_true, false_iff]; intro hh; obtain ⟨hh, hh2⟩ := hh; have hf := (nodeP_iff x).1 hh; (have f1 := hf.zg; omega), hE68, fun h => by cases h⟩
        ·skip
         refine wl_n ?_; refine wl_n ?_; refine wl_n ?_; refine wl_n ?_; refine wl_pf ?_; refine wl_m ?_; refine wl_n ?_; refine wl_n ?_; refine wl_n ?_; refine wl_pf ?_; refine wl_m ?_; refine wl_n ?_; refine wl_n ?_; refine wl_n ?_; refine wl_pf ?_; refine wl_m ?_; refine wl_n ?_; refine wl_n ?_; refine wl_n ?_; refine wl_pf ?_; refine wl_m ?_; refine wl_n ?_; refine wl_n ?_; refine wl_n ?_; refine wl_pf ?_; refine wl_m ?_; refine wl_n ?_; refine wl_n ?_; refine wl_n ?_; refine wl_pf ?_; refine wl_a ?_; refine wl_nil (nrm_then ?_); refine cw_ret (body_ret1 rfl rfl ?_)
         exact ⟨false, rfl, by simp only [Bool.false_eq_true, false_iff]; intro hh; obtain ⟨hh, hh2⟩ := hh; have hf := (nodeP_iff x).1 hh; (have f1 := hf.zr; omega), hE68, fun h => by cases h⟩
       ·skip
        refine wl_n ?_; refine wl_n ?_; refine wl_n ?_; refine wl_pf ?_; refine wl_m ?_; refine wl_n ?_; refine wl_n ?_; refine wl_n ?_; refine wl_n ?_; refine wl_pf ?_; refine wl_m ?_; refine wl_n ?_; refine wl_n ?_; refine wl_n ?_; refine wl_pf ?_; refine wl_m ?_; refine wl_n ?_; refine wl_n ?_; refine wl_n ?_; refine wl_pf ?_; refine wl_m ?_; refine wl_n ?_; refine wl_n ?_; refine wl_n ?_; refine wl_pf ?_; refine wl_m ?_; refine wl_n ?_; refine wl_n ?_; refine wl_n ?_; refine wl_pf ?_; refine wl_m ?_; refine wl_n ?_; refine wl_n ?_; refine wl_n ?_; refine wl_pf ?_; refine wl_a ?_; refine wl_nil (nrm_then ?_); refine cw_ret (body_ret1 rfl rfl ?_)
        exact ⟨false, rfl, by simp only [Bool.false_eq_true, false_iff]; intro hh; obtain ⟨hh, hh2⟩ := hh; have hf := (nodeP_iff x).1 hh; (have f1 := hf.two; have f2 := hf.rep4; have f3 := hf.grp; have f4 := hf.leaf; omega), hE68, fun h => by cases h⟩
     ·skip
      refine cw_seq ?_; refine cw_seq ?_; refine cw_region ?_; refine wl_val rfl (ex_eql rfl rfl) ?_; refine wl_a ?_; refine wl_nil (nrm_then ?_); refine cw_if rfl (fun hc38 => ?_) (fun hc38 => ?_)
      ·skip
       refine cw_skip (nrm_then ?_); refine cw_if rfl (fun hc38 => ?_) (fun hc38 => ?_)
       ·skip
        refine cw_region ?_; refine wl_val rfl (ex_fieldAddr rfl Tryz.fld25_8) ?_; refine wl_val rfl (ex_load1 rfl Tryz.agg23 (cell_nth hB49 rfl)) ?_; refine wl_val rfl (ex_len_slice rfl Tryz.underlying23 rfl) ?_; refine wl_val rfl (ex_max rfl rfl) ?_; refine wl_a ?_; refine wl_nil (nrm_block (nrm_then ?_)); refine cw_seq ?_; refine cw_region ?_; refine wl_val rfl (ex_fieldAddr rfl Tryz.fld25_8) ?_; refine wl_val rfl (ex_load1 rfl Tryz.agg23 (cell_nth hB49 rfl)) ?_; refine wl_val rfl (ex_len_slice rfl Tryz.underlying23 rfl) ?_; refine wl_m ?_; refine wl_val rfl (ex_eql rfl rfl) ?_; refine wl_m ?_; refine wl_split (t := 91) rfl (fun hs91 => ?_) (fun hs91 => ?_)
        ·skip
         refine wl_g ?_; refine wl_val rfl (ex_fieldAddr rfl Tryz.fld25_1) ?_; refine wl_g ?_; refine wl_val rfl (ex_load1 rfl Tryz.agg21 (cell_nth hB50 rfl)) ?_; refine wl_g ?_; refine wl_val rfl (ex_eql rfl rfl) ?_; refine wl_pt ?_; refine wl_m ?_; refine wl_split (t := 96) rfl (fun hs96 => ?_) (fun hs96 => ?_)
         ·skip
          refine wl_g ?_; refine wl_val rfl (ex_fieldAddr rfl Tryz.fld25_2) ?_; refine wl_g ?_; refine wl_val rfl (ex_load1 rfl Tryz.agg22 (cell_nth hB50 rfl)) ?_; refine wl_g ?_; refine wl_val rfl (ex_len_slice rfl Tryz.underlying22 rfl) ?_; refine wl_g ?_; refine wl_val rfl (ex_eql rfl rfl) ?_; refine wl_pt ?_; refine wl_m ?_; refine wl_split (t := 102) rfl (fun hs102 => ?_) (fun hs102 => ?_)
          ·skip
           refine wl_g ?_; refine wl_val rfl (ex_fieldAddr rfl Tryz.fld25_3) ?_; refine wl_g ?_; refine wl_val rfl (ex_load1 rfl Tryz.agg3 (cell_nth hB50 rfl)) ?_; refine wl_g ?_; refine wl_val rfl (ex_eql rfl rfl) ?_; refine wl_pt ?_; refine wl_m ?_; refine wl_split (t := 107) rfl (fun hs107 => ?_) (fun hs107 => ?_)
           ·skip
            refine wl_g ?_; refine wl_val rfl (ex_fieldAddr rfl Tryz.fld25_4) ?_; refine wl_g ?_; refine wl_val rfl (ex_load1 rfl Tryz.agg3 (cell_nth hB50 rfl)) ?_; refine wl_g ?_; refine wl_val rfl (ex_eql rfl rfl) ?_; refine wl_pt ?_; refine wl_m ?_; refine wl_split (t := 112) rfl (fun hs112 => ?_) (fun hs112 => ?_)
            ·skip
             refine wl_g ?_; refine wl_val rfl (ex_fieldAddr rfl Tryz.fld25_5) ?_; refine wl_g ?_; refine wl_val rfl (ex_load1 rfl Tryz.agg4 (cell_nth hB50 rfl)) ?_; refine wl_g ?_; refine wl_val rfl (ex_notb rfl) ?_; refine wl_pt ?_; refine wl_m ?_; refine wl_splitb (t := 117) rfl (fun hs117 => ?_) (fun hs117 => ?_)
             ·skip
              refine wl_g ?_; refine wl_val rfl (ex_fieldAddr rfl Tryz.fld25_6) ?_; refine wl_g ?_; refine wl_val rfl (ex_load1 rfl Tryz.agg3 (cell_nth hB50 rfl)) ?_; refine wl_g ?_; refine wl_val rfl (ex_eql rfl rfl) ?_; refine wl_pt ?_; refine wl_m ?_; refine wl_split (t := 122) rfl (fun hs122 => ?_) (fun hs122 => ?_)
              ·skip
               refine wl_g ?_; refine wl_val rfl (ex_fieldAddr rfl Tryz.fld25_7) ?_; refine wl_g ?_; refine wl_val rfl (ex_load1 rfl Tryz.agg9 (cell_nth hB50 rfl)) ?_; refine wl_g ?_; refine wl_val rfl (ex_eqs rfl rfl) ?_; refine wl_pt ?_; refine wl_a ?_; refine wl_nil (nrm_then ?_); refine cw_ret (body_ret1 rfl rfl ?_)
               have hlz : x.kind = 6 ∨ x.lazy = false := by first | (left; omega) | (right; simpa using hs117)
               refine ⟨_, rfl, ?_, hE46, fun hb => ?_⟩
               · simp only [decide_eq_true_eq]
                 constructor
                 · intro hnm
                   exact ⟨(nodeP_iff x).2 (by constructor <;> first | omega | (right; assumption) | (left; omega) | exact hlz | exact .inr hnm | (intro hk; exact hcb.1 (by simpa using hc36)) | (intro hk; exfalso; omega)), by intro hk; exfalso; omega⟩
                 · intro hh; obtain ⟨hh, hh2⟩ := hh; have hf := (nodeP_iff x).1 hh; exact hf.zn.resolve_left (by omega)
               · rw [if_neg (by omega)]; exact ⟨a, c, ob, ⟨hB47, hO48, hne⟩, .inl rfl⟩
              ·skip
               refine wl_n ?_; refine wl_n ?_; refine wl_n ?_; refine wl_pf ?_; refine wl_a ?_; refine wl_nil (nrm_then ?_); refine cw_ret (body_ret1 rfl rfl ?_)
               exact ⟨false, rfl, by simp only [Bool.false_eq_true, false_iff]; intro hh; obtain ⟨hh, hh2⟩ := hh; have hf := (nodeP_iff x).1 hh; (have f1 := hf.zc; omega), hE46, fun h => by cases h⟩
             ·skip
              refine wl_n ?_; refine wl_n ?_; refine wl_n ?_; refine wl_pf ?_; refine wl_m ?_; refine wl_n ?_; refine wl_n ?_; refine wl_n ?_; refine wl_pf ?_; refine wl_a ?_; refine wl_nil (nrm_then ?_); refine cw_ret (body_ret1 rfl rfl ?_)
              exact ⟨false, rfl, by simp only [Bool.false_eq_true, false_iff]; intro hh; obtain ⟨hh, hh2⟩ := hh; have hf := (nodeP_iff x).1 hh; (first | (rcases hf.zl with h | h; omega; rw [h] at hs117; cases hs117; done) | cases hs117), hE46, fun h => by cases h⟩
            ·skip
             refine wl_n ?_; refine wl_n ?_; refine wl_n ?_; refine wl_pf ?_; refine wl_m ?_; refine wl_n ?_; refine wl_n ?_; refine wl_n ?_; refine wl_pf ?_; refine wl_m ?_; refine wl_n ?_; refine wl_n ?_; refine wl_n ?_; refine wl_pf ?_; refine wl_a ?_; refine wl_nil (nrm_then ?_); refine cw_ret (body_ret1 rfl rfl ?_)
             exact ⟨false, rfl, by simp only [Bool.false_eq_true, false_iff]; intro hh; obtain ⟨hh, hh2⟩ := hh; have hf := (nodeP_iff x).1 hh; (have f1 := hf.zm2; omega), hE46, fun h => by cases h⟩
           ·skip
            refine wl_n ?_; refine wl_n ?_; refine wl_n ?_; refine wl_pf ?_; refine wl_m ?_; refine wl_n ?_; refine wl_n ?_; refine wl_n ?_; refine wl_pf ?_; refine wl_m ?_; refine wl_n ?_; refine wl_n ?_; refine wl_n ?_; refine wl_pf ?_; refine wl_m ?_; refine wl_n ?_; refine wl_n ?_; refine wl_n ?_; refine wl_pf ?_; refine wl_a ?_; refine wl_nil (nrm_then ?_); refine cw_ret (body_ret1 rfl rfl ?_)
            exact ⟨false, rfl, by simp only [Bool.false_eq_true, false_iff]; intro hh; obtain ⟨hh, hh2⟩ := hh; have hf := (nodeP_iff x).1 hh; (have f1 := hf.zm1; omega), hE46, fun h => by cases h⟩
          ·skip
           refine wl_n ?_; refine wl_n ?_; refine wl_n ?_; refine wl_pf ?_; refine wl_m ?_; refine wl_n ?_; refine wl_n ?_; refine wl_n ?_; refine wl_pf ?_; refine wl_m ?_; refine wl_n ?_; refine wl_n ?_; refine wl_n ?_; refine wl_pf ?_; refine wl_m ?_; refine wl_n ?_; refine wl_n ?_; refine wl_n ?_; refine wl_pf ?_; refine wl_m ?_; refine wl_n ?_; refine wl_n ?_; refine wl_n ?_; refine wl_pf ?_; refine wl_a ?_; refine wl_nil (nrm_then ?_); refine cw_ret (body_ret1 rfl rfl ?_)
           exact ⟨false, rfl, by simp only [Bool.false_eq_true, false_iff]; intro hh; obtain ⟨hh, hh2⟩ := hh; have hf := (nodeP_iff x).1 hh; (have f1 := hf.zg; omega), hE46, fun h => by cases h⟩
         ·skip
          refine wl_n ?_; refine wl_n ?_; refine wl_n ?_; refine wl_n ?_; refine wl_pf ?_; refine wl_m ?_; refine wl_n ?_; refine wl_n ?_; refine wl_n ?_; refine wl_pf ?_; refine wl_m ?_; refine wl_n ?_; refine wl_n ?_; refine wl_n ?_; refine wl_pf ?_; refine wl_m ?_; refine wl_n ?_; refine wl_n ?_; refine wl_n ?_; refine wl_pf ?_; refine wl_m ?_; refine wl_n ?_; refine wl_n ?_; refine wl_n ?_; refine wl_pf ?_; refine wl_m ?_; refine wl_n ?_; refine wl_n ?_; refine wl_n ?_; refine wl_pf ?_; refine wl_a ?_; refine wl_nil (nrm_then ?_); refine cw_ret (body_ret1 rfl rfl ?_)
          exact ⟨false, rfl, by simp only [Bool.false_eq_true, false_iff]; intro hh; obtain ⟨hh, hh2⟩ := hh; have hf := (nodeP_iff x).1 hh; (have f1 := hf.zr; omega), hE46, fun h => by cases h⟩
        ·skip
         refine wl_n ?_; refine wl_n ?_; refine wl_n ?_; refine wl_pf ?_; refine wl_m ?_; refine wl_n ?_; refine wl_n ?_; refine wl_n ?_; refine wl_n ?_; refine wl_pf ?_; refine wl_m ?_; refine wl_n ?_; refine wl_n ?_; refine wl_n ?_; refine wl_pf ?_; refine wl_m ?_; refine wl_n ?_; refine wl_n ?_; refine wl_n ?_; refine wl_pf ?_; refine wl_m ?_; refine wl_n ?_; refine wl_n ?_; refine wl_n ?_; refine wl_pf ?_; refine wl_m ?_; refine wl_n ?_; refine wl_n ?_; refine wl_n ?_; refine wl_pf ?_; refine wl_m ?_; refine wl_n ?_; refine wl_n ?_; refine wl_n ?_; refine wl_pf ?_; refine wl_a ?_; refine wl_nil (nrm_then ?_); refine cw_ret (body_ret1 rfl rfl ?_)
         exact ⟨false, rfl, by simp only [Bool.false_eq_true, false_iff]; intro hh; obtain ⟨hh, hh2⟩ := hh; have hf := (nodeP_iff x).1 hh; (have f1 := hf.two; have f2 := hf.rep4; have f3 := hf.grp; have f4 := hf.leaf; omega), hE46, fun h => by cases h⟩
       ·skip
        refine cw_seq ?_; refine cw_region ?_; refine wl_val rfl (ex_eql rfl rfl) ?_; refine wl_a ?_; refine wl_nil (nrm_then ?_); refine cw_if rfl (fun hc45 => ?_) (fun hc45 => ?_)
        ·skip
         refine cw_seq ?_; refine cw_seq ?_; refine cw_region ?_; refine wl_val rfl (ex_fieldAddr rfl Tryz.fld25_3) ?_; refine wl_val rfl (ex_load1 rfl Tryz.agg3 (cell_nth hB49 rfl)) ?_; refine wl_val rfl (ex_lss rfl rfl) ?_; refine wl_m ?_; refine wl_split (t := 50) rfl (fun hs50 => ?_) (fun hs50 => ?_)
         ·skip
          refine wl_n ?_; refine wl_n ?_; refine wl_n ?_; refine wl_pt ?_; refine wl_m ?_; refine wl_n ?_; refine wl_n ?_; refine wl_n ?_; refine wl_n ?_; refine wl_u ?_; refine wl_u ?_; refine wl_u ?_; refine wl_u ?_; refine wl_u ?_; refine wl_u ?_; refine wl_u ?_; refine wl_u ?_; refine wl_u ?_; refine wl_u ?_; refine wl_n ?_; refine wl_pt ?_; refine wl_nil (nrm_then ?_); refine cw_true rfl ?_; refine cw_seq ?_; refine cw_region ?_; refine wl_a ?_; refine wl_nil (nrm_then ?_); refine cw_ret (ret_then (ret_block (ret_then (body_ret1 rfl rfl ?_))))
          exact ⟨false, rfl, by simp only [Bool.false_eq_true, false_iff]; intro hh; obtain ⟨hh, hh2⟩ := hh; have hf := (nodeP_iff x).1 hh; (have f1 := hf.rep1; omega), hE46, fun h => by cases h⟩
         ·skip
          refine wl_g ?_; refine wl_val rfl (ex_fieldAddr rfl Tryz.fld25_3) ?_; refine wl_g ?_; refine wl_val rfl (ex_load1 rfl Tryz.agg3 (cell_nth hB49 rfl)) ?_; refine wl_g ?_; refine wl_val rfl (ex_gtr rfl rfl) ?_; refine wl_pf ?_; refine wl_m ?_; refine wl_split (t := 55) rfl (fun hs55 => ?_) (fun hs55 => ?_)
          ·skip
           refine wl_n ?_; refine wl_n ?_; refine wl_n ?_; refine wl_n ?_; refine wl_u ?_; refine wl_u ?_; refine wl_u ?_; refine wl_u ?_; refine wl_u ?_; refine wl_u ?_; refine wl_u ?_; refine wl_u ?_; refine wl_u ?_; refine wl_u ?_; refine wl_n ?_; refine wl_pt ?_; refine wl_nil (nrm_then ?_); refine cw_true rfl ?_; refine cw_seq ?_; refine cw_region ?_; refine wl_a ?_; refine wl_nil (nrm_then ?_); refine cw_ret (ret_then (ret_block (ret_then (body_ret1 rfl rfl ?_))))
           exact ⟨false, rfl, by simp only [Bool.false_eq_true, false_iff]; intro hh; obtain ⟨hh, hh2⟩ := hh; have hf := (nodeP_iff x).1 hh; (have f1 := hf.rep1; have f2 := hf.rep2; have f3 := hf.rep3; omega), hE46, fun h => by cases h⟩
          ·skip
           refine wl_g ?_; refine wl_val rfl (ex_fieldAddr rfl Tryz.fld25_4) ?_; refine wl_g ?_; refine wl_val rfl (ex_load1 rfl Tryz.agg3 (cell_nth hB49 rfl)) ?_; refine wl_g ?_; refine wl_val rfl (ex_neq rfl rfl) ?_; refine wl_g ?_; refine wl_m ?_; refine wl_split (t := 59) rfl (fun hs59 => ?_) (fun hs59 => ?_)
           ·skip
            refine wl_g ?_; refine wl_val rfl (ex_fieldAddr rfl Tryz.fld25_4) ?_; refine wl_g ?_; refine wl_val rfl (ex_load1 rfl Tryz.agg3 (cell_nth hB49 rfl)) ?_; refine wl_g ?_; refine wl_val rfl (ex_fieldAddr rfl Tryz.fld25_3) ?_; refine wl_g ?_; refine wl_val rfl (ex_load1 rfl Tryz.agg3 (cell_nth hB49 rfl)) ?_; refine wl_g ?_; refine wl_val rfl (ex_lss rfl rfl) ?_; refine wl_g ?_; refine wl_m ?_; refine wl_split (t := 65) rfl (fun hs65 => ?_) (fun hs65 => ?_)
            ·skip
             refine wl_n ?_; refine wl_n ?_; refine wl_n ?_; refine wl_g ?_; refine wl_pt ?_; refine wl_g ?_; refine wl_pt ?_; refine wl_pf ?_; refine wl_nil (nrm_then ?_); refine cw_true rfl ?_; refine cw_seq ?_; refine cw_region ?_; refine wl_a ?_; refine wl_nil (nrm_then ?_); refine cw_ret (ret_then (ret_block (ret_then (body_ret1 rfl rfl ?_))))
             exact ⟨false, rfl, by simp only [Bool.false_eq_true, false_iff]; intro hh; obtain ⟨hh, hh2⟩ := hh; have hf := (nodeP_iff x).1 hh; (have f1 := hf.rep1; have f2 := hf.rep2; have f3 := hf.rep3; omega), hE46, fun h => by cases h⟩
            ·skip
             refine wl_g ?_; refine wl_val rfl (ex_fieldAddr rfl Tryz.fld25_4) ?_; refine wl_g ?_; refine wl_val rfl (ex_load1 rfl Tryz.agg3 (cell_nth hB49 rfl)) ?_; refine wl_g ?_; refine wl_val rfl (ex_gtr rfl rfl) ?_; refine wl_g ?_; refine wl_pf ?_; refine wl_g ?_; refine wl_pt ?_; refine wl_pf ?_; refine wl_nil (nrm_then ?_); refine cw_if rfl (fun hc71 => ?_) (fun hc71 => ?_)
             ·skip
              refine cw_seq ?_; refine cw_region ?_; refine wl_a ?_; refine wl_nil (nrm_then ?_); refine cw_ret (ret_then (ret_block (ret_then (body_ret1 rfl rfl ?_))))
              exact ⟨false, rfl, by simp only [Bool.false_eq_true, false_iff]; intro hh; obtain ⟨hh, hh2⟩ := hh; have hf := (nodeP_iff x).1 hh; (have f1 := hf.rep1; have f2 := hf.rep2; have f3 := hf.rep3; omega), hE46, fun h => by cases h⟩
             ·skip
              refine cw_skip (nrm_then ?_); refine cw_seq ?_; refine cw_region ?_; refine wl_val rfl (ex_fieldAddr rfl Tryz.fld25_3) ?_; refine wl_store1 rfl rfl (by first | rfl | assumption) Tryz.size3 hB50 rfl fun w72 hB73 hw74 => ?_; have hE75 := hE46.step hw74 hG18.mem1; have hB76 := hw74.blk hB47 hA15.nmem1; have hO77 := hO48.evo hw74 hA16.own1; have hB78 := hw74.blk hB49 hA17.nmem1
              try simp only [List.setIfInBounds_toArray, List.set_cons_zero, List.set_cons_succ, Nat.reduceAdd, Nat.zero_add, Nat.add_zero] at hB73
              refine wl_val rfl (ex_fieldAddr rfl Tryz.fld25_4) ?_; refine wl_store1 rfl rfl (by first | rfl | assumption) Tryz.size3 hB73 rfl fun w79 hB80 hw81 => ?_; have hE82 := hE75.step hw81 hG18.mem1; have hB83 := hw81.blk hB76 hA15.nmem1; have hO84 := hO77.evo hw81 hA16.own1; have hB85 := hw81.blk hB78 hA17.nmem1
              try simp only [List.setIfInBounds_toArray, List.set_cons_zero, List.set_cons_succ, Nat.reduceAdd, Nat.zero_add, Nat.add_zero] at hB80
              refine wl_val rfl (ex_fieldAddr rfl Tryz.fld25_5) ?_; refine wl_store1 rfl rfl (by first | rfl | assumption) Tryz.size4 hB80 rfl fun w86 hB87 hw88 => ?_; have hE89 := hE82.step hw88 hG18.mem1; have hB90 := hw88.blk hB83 hA15.nmem1; have hO91 := hO84.evo hw88 hA16.own1; have hB92 := hw88.blk hB85 hA17.nmem1
              try simp only [List.setIfInBounds_toArray, List.set_cons_zero, List.set_cons_succ, Nat.reduceAdd, Nat.zero_add, Nat.add_zero] at hB87
              refine wl_nil (nrm_then ?_); refine cw_region ?_; refine wl_a ?_; refine wl_nil (nrm_block (nrm_then ?_)); refine cw_seq ?_; refine cw_region ?_; refine wl_val rfl (ex_fieldAddr rfl Tryz.fld25_8) ?_; refine wl_val rfl (ex_load1 rfl Tryz.agg23 (cell_nth hB92 rfl)) ?_; refine wl_val rfl (ex_len_slice rfl Tryz.underlying23 rfl) ?_; refine wl_m ?_; refine wl_val rfl (ex_eql rfl rfl) ?_; refine wl_m ?_; refine wl_split (t := 91) rfl (fun hs91 => ?_) (fun hs91 => ?_)
              ·skip
               refine wl_g ?_; refine wl_val rfl (ex_fieldAddr rfl Tryz.fld25_1) ?_; refine wl_g ?_; refine wl_val rfl (ex_load1 rfl Tryz.agg21 (cell_nth hB87 rfl)) ?_; refine wl_g ?_; refine wl_val rfl (ex_eql rfl rfl) ?_; refine wl_pt ?_; refine wl_m ?_; refine wl_split (t := 96) rfl (fun hs96 => ?_) (fun hs96 => ?_)
               ·skip
                refine wl_g ?_; refine wl_val rfl (ex_fieldAddr rfl Tryz.fld25_2) ?_; refine wl_g ?_; refine wl_val rfl (ex_load1 rfl Tryz.agg22 (cell_nth hB87 rfl)) ?_; refine wl_g ?_; refine wl_val rfl (ex_len_slice rfl Tryz.underlying22 rfl) ?_; refine wl_g ?_; refine wl_val rfl (ex_eql rfl rfl) ?_; refine wl_pt ?_; refine wl_m ?_; refine wl_split (t := 102) rfl (fun hs102 => ?_) (fun hs102 => ?_)
                ·skip
                 refine wl_g ?_; refine wl_val rfl (ex_fieldAddr rfl Tryz.fld25_3) ?_; refine wl_g ?_; refine wl_val rfl (ex_load1 rfl Tryz.agg3 (cell_nth hB87 rfl)) ?_; refine wl_g ?_; refine wl_val rfl (ex_eql rfl rfl) ?_; refine wl_pt ?_; refine wl_m ?_; refine wl_split (t := 107) rfl (fun hs107 => ?_) (fun hs107 => ?_)
                 ·skip
                  refine wl_g ?_; refine wl_val rfl (ex_fieldAddr rfl Tryz.fld25_4) ?_; refine wl_g ?_; refine wl_val rfl (ex_load1 rfl Tryz.agg3 (cell_nth hB87 rfl)) ?_; refine wl_g ?_; refine wl_val rfl (ex_eql rfl rfl) ?_; refine wl_pt ?_; refine wl_m ?_; refine wl_split (t := 112) rfl (fun hs112 => ?_) (fun hs112 => ?_)
                  ·skip
                   refine wl_g ?_; refine wl_val rfl (ex_fieldAddr rfl Tryz.fld25_5) ?_; refine wl_g ?_; refine wl_val rfl (ex_load1 rfl Tryz.agg4 (cell_nth hB87 rfl)) ?_; refine wl_g ?_; refine wl_val rfl (ex_notb rfl) ?_; refine wl_pt ?_; refine wl_m ?_; refine wl_splitb (t := 117) rfl (fun hs117 => ?_) (fun hs117 => ?_)
                   ·skip
                    refine wl_g ?_; refine wl_val rfl (ex_fieldAddr rfl Tryz.fld25_6) ?_; refine wl_g ?_; refine wl_val rfl (ex_load1 rfl Tryz.agg3 (cell_nth hB87 rfl)) ?_; refine wl_g ?_; refine wl_val rfl (ex_eql rfl rfl) ?_; refine wl_pt ?_; refine wl_m ?_; refine wl_split (t := 122) rfl (fun hs122 => ?_) (fun hs122 => ?_)
                    ·skip
                     refine wl_g ?_; refine wl_val rfl (ex_fieldAddr rfl Tryz.fld25_7) ?_; refine wl_g ?_; refine wl_val rfl (ex_load1 rfl Tryz.agg9 (cell_nth hB87 rfl)) ?_; refine wl_g ?_; refine wl_val rfl (ex_eqs rfl rfl) ?_; refine wl_pt ?_; refine wl_a ?_; refine wl_nil (nrm_then ?_); refine cw_ret (body_ret1 rfl rfl ?_)
                     have hlz : x.kind = 6 ∨ x.lazy = false := by first | (left; omega) | (right; simpa using hs117)
                     refine ⟨_, rfl, ?_, hE89, fun hb => ?_⟩
                     · simp only [decide_eq_true_eq]
                       constructor
                       · intro hnm
                         exact ⟨(nodeP_iff x).2 (by constructor <;> first | omega | (right; assumption) | (left; omega) | exact hlz | exact .inr hnm | (intro hk; exact hcb.1 (by simpa using hc36)) | (intro hk; exfalso; omega)), by intro hk; exfalso; omega⟩
                       · intro hh; obtain ⟨hh, hh2⟩ := hh; have hf := (nodeP_iff x).1 hh; exact hf.zn.resolve_left (by omega)
                     · rw [if_neg (by omega)]; exact ⟨a, c, ob, ⟨hB90, hO91, hne⟩, .inl rfl⟩
                    ·skip
                     refine wl_n ?_; refine wl_n ?_; refine wl_n ?_; refine wl_pf ?_; refine wl_a ?_; refine wl_nil (nrm_then ?_); refine cw_ret (body_ret1 rfl rfl ?_)
                     exact ⟨false, rfl, by simp only [Bool.false_eq_true, false_iff]; intro hh; obtain ⟨hh, hh2⟩ := hh; have hf := (nodeP_iff x).1 hh; (have f1 := hf.zc; omega), hE89, fun h => by cases h⟩
                   ·skip
                    refine wl_n ?_; refine wl_n ?_; refine wl_n ?_; refine wl_pf ?_; refine wl_m ?_; refine wl_n ?_; refine wl_n ?_; refine wl_n ?_; refine wl_pf ?_; refine wl_a ?_; refine wl_nil (nrm_then ?_); refine cw_ret (body_ret1 rfl rfl ?_)
                    exact ⟨false, rfl, by simp only [Bool.false_eq_true, false_iff]; intro hh; obtain ⟨hh, hh2⟩ := hh; have hf := (nodeP_iff x).1 hh; (first | (rcases hf.zl with h | h; omega; rw [h] at hs117; cases hs117; done) | cases hs117), hE89, fun h => by cases h⟩
                  ·skip
                   refine wl_n ?_; refine wl_n ?_; refine wl_n ?_; refine wl_pf ?_; refine wl_m ?_; refine wl_n ?_; refine wl_n ?_; refine wl_n ?_; refine wl_pf ?_; refine wl_m ?_; refine wl_n ?_; refine wl_n ?_; refine wl_n ?_; refine wl_pf ?_; refine wl_a ?_; refine wl_nil (nrm_then ?_); refine cw_ret (body_ret1 rfl rfl ?_)
                   exact ⟨false, rfl, by simp only [Bool.false_eq_true, false_iff]; intro hh; obtain ⟨hh, hh2⟩ := hh; have hf := (nodeP_iff x).1 hh; (have f1 := hf.zm2; omega), hE89, fun h => by cases h⟩
                 ·skip
                  refine wl_n ?_; refine wl_n ?_; refine wl_n ?_; refine wl_pf ?_; refine wl_m ?_; refine wl_n ?_; refine wl_n ?_; refine wl_n ?_; refine wl_pf ?_; refine wl_m ?_; refine wl_n ?_; refine wl_n ?_; refine wl_n ?_; refine wl_pf ?_; refine wl_m ?_; refine wl_n ?_; refine wl_n ?_; refine wl_n ?_; refine wl_pf ?_; refine wl_a ?_; refine wl_nil (nrm_then ?_); refine cw_ret (body_ret1 rfl rfl ?_)
                  exact ⟨false, rfl, by simp only [Bool.false_eq_true, false_iff]; intro hh; obtain ⟨hh, hh2⟩ := hh; have hf := (nodeP_iff x).1 hh; (have f1 := hf.zm1; omega), hE89, fun h => by cases h⟩
                ·skip
                 refine wl_n ?_; refine wl_n ?_; refine wl_n ?_; refine wl_pf ?_; refine wl_m ?_; refine wl_n ?_; refine wl_n ?_; refine wl_n ?_; refine wl_pf ?_; refine wl_m ?_; refine wl_n ?_; refine wl_n ?_; refine wl_n ?_; refine wl_pf ?_; refine wl_m ?_; refine wl_n ?_; refine wl_n ?_; refine wl_n ?_; refine wl_pf ?_; refine wl_m ?_; refine wl_n ?_; refine wl_n ?_; refine wl_n ?_; refine wl_pf ?_; refine wl_a ?_; refine wl_nil (nrm_then ?_); refine cw_ret (body_ret1 rfl rfl ?_)
                 exact ⟨false, rfl, by simp only [Bool.false_eq_true, false_iff]; intro hh; obtain ⟨hh, hh2⟩ := hh; have hf := (nodeP_iff x).1 hh; (have f1 := hf.zg; omega), hE89, fun h => by cases h⟩
               ·skip
                refine wl_n ?_; refine wl_n ?_; refine wl_n ?_; refine wl_n ?_; refine wl_pf ?_; refine wl_m ?_; refine wl_n ?_; refine wl_n ?_; refine wl_n ?_; refine wl_pf ?_; refine wl_m ?_; refine wl_n ?_; refine wl_n ?_; refine wl_n ?_; refine wl_pf ?_; refine wl_m ?_; refine wl_n ?_; refine wl_n ?_; refine wl_n ?_; refine wl_pf ?_; refine wl_m ?_; refine wl_n ?_; refine wl_n ?_; refine wl_n ?_; refine wl_pf ?_; refine wl_m ?_; refine wl_n ?_; refine wl_n ?_; refine wl_n ?_; refine wl_pf ?_; refine wl_a ?_; refine wl_nil (nrm_then ?_); refine cw_ret (body_ret1 rfl rfl ?_)
                exact ⟨false, rfl, by simp only [Bool.false_eq_true, false_iff]; intro hh; obtain ⟨hh, hh2⟩ := hh; have hf := (nodeP_iff x).1 hh; (have f1 := hf.zr; omega), hE89, fun h => by cases h⟩
              ·skip
               refine wl_n ?_; refine wl_n ?_; refine wl_n ?_; refine wl_pf ?_; refine wl_m ?_; refine wl_n ?_; refine wl_n ?_; refine wl_n ?_; refine wl_n ?_; refine wl_pf ?_; refine wl_m ?_; refine wl_n ?_; refine wl_n ?_; refine wl_n ?_; refine wl_pf ?_; refine wl_m ?_; refine wl_n ?_; refine wl_n ?_; refine wl_n ?_; refine wl_pf ?_; refine wl_m ?_; refine wl_n ?_; refine wl_n ?_; refine wl_n ?_; refine wl_pf ?_; refine wl_m ?_; refine wl_n ?_; refine wl_n ?_; refine wl_n ?_; refine wl_pf ?_; refine wl_m ?_; refine wl_n ?_; refine wl_n ?_; refine wl_n ?_; refine wl_pf ?_; refine wl_a ?_; refine wl_nil (nrm_then ?_); refine cw_ret (body_ret1 rfl rfl ?_)
               exact ⟨false, rfl, by simp only [Bool.false_eq_true, false_iff]; intro hh; obtain ⟨hh, hh2⟩ := hh; have hf := (nodeP_iff x).1 hh; (have f1 := hf.two; have f2 := hf.rep4; have f3 := hf.grp; have f4 := hf.leaf; omega), hE89, fun h => by cases h⟩
           ·skip
            refine wl_n ?_; refine wl_n ?_; refine wl_n ?_; refine wl_n ?_; refine wl_n ?_; refine wl_n ?_; refine wl_u ?_; refine wl_u ?_; refine wl_u ?_; refine wl_n ?_; refine wl_g ?_; refine wl_pf ?_; refine wl_pf ?_; refine wl_nil (nrm_then ?_); refine cw_false rfl ?_; refine cw_skip (nrm_then ?_); refine cw_seq ?_; refine cw_region ?_; refine wl_val rfl (ex_fieldAddr rfl Tryz.fld25_3) ?_; refine wl_store1 rfl rfl (by first | rfl | assumption) Tryz.size3 hB50 rfl fun w93 hB94 hw95 => ?_; have hE96 := hE46.step hw95 hG18.mem1; have hB97 := hw95.blk hB47 hA15.nmem1; have hO98 := hO48.evo hw95 hA16.own1; have hB99 := hw95.blk hB49 hA17.nmem1
            try simp only [List.setIfInBounds_toArray, List.set_cons_zero, List.set_cons_succ, Nat.reduceAdd, Nat.zero_add, Nat.add_zero] at hB94
            refine wl_val rfl (ex_fieldAddr rfl Tryz.fld25_4) ?_; refine wl_store1 rfl rfl (by first | rfl | assumption) Tryz.size3 hB94 rfl fun w100 hB101 hw102 => ?_; have hE103 := hE96.step hw102 hG18.mem1; have hB104 := hw102.blk hB97 hA15.nmem1; have hO105 := hO98.evo hw102 hA16.own1; have hB106 := hw102.blk hB99 hA17.nmem1
            try simp only [List.setIfInBounds_toArray, List.set_cons_zero, List.set_cons_succ, Nat.reduceAdd, Nat.zero_add, Nat.add_zero] at hB101
            refine wl_val rfl (ex_fieldAddr rfl Tryz.fld25_5) ?_; refine wl_store1 rfl rfl (by first | rfl | assumption) Tryz.size4 hB101 rfl fun w107 hB108 hw109 => ?_; have hE110 := hE103.step hw109 hG18.mem1; have hB111 := hw109.blk hB104 hA15.nmem1; have hO112 := hO105.evo hw109 hA16.own1; have hB113 := hw109.blk hB106 hA17.nmem1
            try simp only [List.setIfInBounds_toArray, List.set_cons_zero, List.set_cons_succ, Nat.reduceAdd, Nat.zero_add, Nat.add_zero] at hB108
            refine wl_nil (nrm_then ?_); refine cw_region ?_; refine wl_a ?_; refine wl_nil (nrm_block (nrm_then ?_)); refine cw_seq ?_; refine cw_region ?_; refine wl_val rfl (ex_fieldAddr rfl Tryz.fld25_8) ?_; refine wl_val rfl (ex_load1 rfl Tryz.agg23 (cell_nth hB113 rfl)) ?_; refine wl_val rfl (ex_len_slice rfl Tryz.underlying23 rfl) ?_; refine wl_m ?_; refine wl_val rfl (ex_eql rfl rfl) ?_; refine wl_m ?_; refine wl_split (t := 91) rfl (fun hs91 => ?_) (fun hs91 => ?_)
            ·skip
             refine wl_g ?_; refine wl_val rfl (ex_fieldAddr rfl Tryz.fld25_1) ?_; refine wl_g ?_; refine wl_val rfl (ex_load1 rfl Tryz.agg21 (cell_nth hB108 rfl)) ?_; refine wl_g ?_; refine wl_val rfl (ex_eql rfl rfl) ?_; refine wl_pt ?_; refine wl_m ?_; refine wl_split (t := 96) rfl (fun hs96 => ?_) (fun hs96 => ?_)
             ·skip
              refine wl_g ?_; refine wl_val rfl (ex_fieldAddr rfl Tryz.fld25_2) ?_; refine wl_g ?_; refine wl_val rfl (ex_load1 rfl Tryz.agg22 (cell_nth hB108 rfl)) ?_; refine wl_g ?_; refine wl_val rfl (ex_len_slice rfl Tryz.underlying22 rfl) ?_; refine wl_g ?_; refine wl_val rfl (ex_eql rfl rfl) ?_; refine wl_pt ?_; refine wl_m ?_; refine wl_split (t := 102) rfl (fun hs102 => ?_) (fun hs102 => ?_)
              ·skip
               refine wl_g ?_; refine wl_val rfl (ex_fieldAddr rfl Tryz.fld25_3) ?_; refine wl_g ?_; refine wl_val rfl (ex_load1 rfl Tryz.agg3 (cell_nth hB108 rfl)) ?_; refine wl_g ?_; refine wl_val rfl (ex_eql rfl rfl) ?_; refine wl_pt ?_; refine wl_m ?_; refine wl_split (t := 107) rfl (fun hs107 => ?_) (fun hs107 => ?_)
               ·skip
                refine wl_g ?_; refine wl_val rfl (ex_fieldAddr rfl Tryz.fld25_4) ?_; refine wl_g ?_; refine wl_val rfl (ex_load1 rfl Tryz.agg3 (cell_nth hB108 rfl)) ?_; refine wl_g ?_; refine wl_val rfl (ex_eql rfl rfl) ?_; refine wl_pt ?_; refine wl_m ?_; refine wl_split (t := 112) rfl (fun hs112 => ?_) (fun hs112 => ?_)
                ·skip
                 refine wl_g ?_; refine wl_val rfl (ex_fieldAddr rfl Tryz.fld25_5) ?_; refine wl_g ?_; refine wl_val rfl (ex_load1 rfl Tryz.agg4 (cell_nth hB108 rfl)) ?_; refine wl_g ?_; refine wl_val rfl (ex_notb rfl) ?_; refine wl_pt ?_; refine wl_m ?_; refine wl_splitb (t := 117) rfl (fun hs117 => ?_) (fun hs117 => ?_)
                 ·skip
                  refine wl_g ?_; refine wl_val rfl (ex_fieldAddr rfl Tryz.fld25_6) ?_; refine wl_g ?_; refine wl_val rfl (ex_load1 rfl Tryz.agg3 (cell_nth hB108 rfl)) ?_; refine wl_g ?_; refine wl_val rfl (ex_eql rfl rfl) ?_; refine wl_pt ?_; refine wl_m ?_; refine wl_split (t := 122) rfl (fun hs122 => ?_) (fun hs122 => ?_)
                  ·skip
                   refine wl_g ?_; refine wl_val rfl (ex_fieldAddr rfl Tryz.fld25_7) ?_; refine wl_g ?_; refine wl_val rfl (ex_load1 rfl Tryz.agg9 (cell_nth hB108 rfl)) ?_; refine wl_g ?_; refine wl_val rfl (ex_eqs rfl rfl) ?_; refine wl_pt ?_; refine wl_a ?_; refine wl_nil (nrm_then ?_); refine cw_ret (body_ret1 rfl rfl ?_)
                   have hlz : x.kind = 6 ∨ x.lazy = false := by first | (left; omega) | (right; simpa using hs117)
                   refine ⟨_, rfl, ?_, hE110, fun hb => ?_⟩
                   · simp only [decide_eq_true_eq]
                     constructor
                     · intro hnm
                       exact ⟨(nodeP_iff x).2 (by constructor <;> first | omega | (right; assumption) | (left; omega) | exact hlz | exact .inr hnm | (intro hk; exact hcb.1 (by simpa using hc36)) | (intro hk; exfalso; omega)), by intro hk; exfalso; omega⟩
                     · intro hh; obtain ⟨hh, hh2⟩ := hh; have hf := (nodeP_iff x).1 hh; exact hf.zn.resolve_left (by omega)
                   · rw [if_neg (by omega)]; exact ⟨a, c, ob, ⟨hB111, hO112, hne⟩, .inl rfl⟩
                  ·skip
                   refine wl_n ?_; refine wl_n ?_; refine wl_n ?_; refine wl_pf ?_; refine wl_a ?_; refine wl_nil (nrm_then ?_); refine cw_ret (body_ret1 rfl rfl ?_)
                   exact ⟨false, rfl, by simp only [Bool.false_eq_true, false_iff]; intro hh; obtain ⟨hh, hh2⟩ := hh; have hf := (nodeP_iff x).1 hh; (have f1 := hf.zc; omega), hE110, fun h => by cases h⟩
                 ·skip
                  refine wl_n ?_; refine wl_n ?_; refine wl_n ?_; refine wl_pf ?_; refine wl_m ?_; refine wl_n ?_; refine wl_n ?_; refine wl_n ?_; refine wl_pf ?_; refine wl_a ?_; refine wl_nil (nrm_then ?_); refine cw_ret (body_ret1 rfl rfl ?_)
                  exact ⟨false, rfl, by simp only [Bool.false_eq_true, false_iff]; intro hh; obtain ⟨hh, hh2⟩ := hh; have hf := (nodeP_iff x).1 hh; (first | (rcases hf.zl with h | h; omega; rw [h] at hs117; cases hs117; done) | cases hs117), hE110, fun h => by cases h⟩
                ·skip
                 refine wl_n ?_; refine wl_n ?_; refine wl_n ?_; refine wl_pf ?_; refine wl_m ?_; refine wl_n ?_; refine wl_n ?_; refine wl_n ?_; refine wl_pf ?_; refine wl_m ?_; refine wl_n ?_; refine wl_n ?_; refine wl_n ?_; refine wl_pf ?_; refine wl_a ?_; refine wl_nil (nrm_then ?_); refine cw_ret (body_ret1 rfl rfl ?_)
                 exact ⟨false, rfl, by simp only [Bool.false_eq_true, false_iff]; intro hh; obtain ⟨hh, hh2⟩ := hh; have hf := (nodeP_iff x).1 hh; (have f1 := hf.zm2; omega), hE110, fun h => by cases h⟩
               ·skip
                refine wl_n ?_; refine wl_n ?_; refine wl_n ?_; refine wl_pf ?_; refine wl_m ?_; refine wl_n ?_; refine wl_n ?_; refine wl_n ?_; refine wl_pf ?_; refine wl_m ?_; refine wl_n ?_; refine wl_n ?_; refine wl_n ?_; refine wl_pf ?_; refine wl_m ?_; refine wl_n ?_; refine wl_n ?_; refine wl_n ?_; refine wl_pf ?_; refine wl_a ?_; refine wl_nil (nrm_then ?_); refine cw_ret (body_ret1 rfl rfl ?_)
                exact ⟨false, rfl, by simp only [Bool.false_eq_true, false_iff]; intro hh; obtain ⟨hh, hh2⟩ := hh; have hf := (nodeP_iff x).1 hh; (have f1 := hf.zm1; omega), hE110, fun h => by cases h⟩
              ·skip
               refine wl_n ?_; refine wl_n ?_; refine wl_n ?_; refine wl_pf ?_; refine wl_m ?_; refine wl_n ?_; refine wl_n ?_; refine wl_n ?_; refine wl_pf ?_; refine wl_m ?_; refine wl_n ?_; refine wl_n ?_; refine wl_n ?_; refine wl_pf ?_; refine wl_m ?_; refine wl_n ?_; refine wl_n ?_; refine wl_n ?_; refine wl_pf ?_; refine wl_m ?_; refine wl_n ?_; refine wl_n ?_; refine wl_n ?_; refine wl_pf ?_; refine wl_a ?_; refine wl_nil (nrm_then ?_); refine cw_ret (body_ret1 rfl rfl ?_)
               exact ⟨false, rfl, by simp only [Bool.false_eq_true, false_iff]; intro hh; obtain ⟨hh, hh2⟩ := hh; have hf := (nodeP_iff x).1 hh; (have f1 := hf.zg; omega), hE110, fun h => by cases h⟩
             ·skip
              refine wl_n ?_; refine wl_n ?_; refine wl_n ?_; refine wl_n ?_; refine wl_pf ?_; refine wl_m ?_; refine wl_n ?_; refine wl_n ?_; refine wl_n ?_; refine wl_pf ?_; refine wl_m ?_; refine wl_n ?_; refine wl_n ?_; refine wl_n ?_; refine wl_pf ?_; refine wl_m ?_; refine wl_n ?_; refine wl_n ?_; refine wl_n ?_; refine wl_pf ?_; refine wl_m ?_; refine wl_n ?_; refine wl_n ?_; refine wl_n ?_; refine wl_pf ?_; refine wl_m ?_; refine wl_n ?_; refine wl_n ?_; refine wl_n ?_; refine wl_pf ?_; refine wl_a ?_; refine wl_nil (nrm_then ?_); refine cw_ret (body_ret1 rfl rfl ?_)
              exact ⟨false, rfl, by simp only [Bool.false_eq_true, false_iff]; intro hh; obtain ⟨hh, hh2⟩ := hh; have hf := (nodeP_iff x).1 hh; (have f1 := hf.zr; omega), hE110, fun h => by cases h⟩
            ·skip
             refine wl_n ?_; refine wl_n ?_; refine wl_n ?_; refine wl_pf ?_; refine wl_m ?_; refine wl_n ?_; refine wl_n ?_; refine wl_n ?_; refine wl_n ?_; refine wl_pf ?_; refine wl_m ?_; refine wl_n ?_; refine wl_n ?_; refine wl_n ?_; refine wl_pf ?_; refine wl_m ?_; refine wl_n ?_; refine wl_n ?_; refine wl_n ?_; refine wl_pf ?_; refine wl_m ?_; refine wl_n ?_; refine wl_n ?_; refine wl_n ?_; refine wl_pf ?_; refine wl_m ?_; refine wl_n ?_; refine wl_n ?_; refine wl_n ?_; refine wl_pf ?_; refine wl_m ?_; refine wl_n ?_; refine wl_n ?_; refine wl_n ?_; refine wl_pf ?_; refine wl_a ?_; refine wl_nil (nrm_then ?_); refine cw_ret (body_ret1 rfl rfl ?_)
             exact ⟨false, rfl, by simp only [Bool.false_eq_true, false_iff]; intro hh; obtain ⟨hh, hh2⟩ := hh; have hf := (nodeP_iff x).1 hh; (have f1 := hf.two; have f2 := hf.rep4; have f3 := hf.grp; have f4 := hf.leaf; omega), hE110, fun h => by cases h⟩
        ·skip
         refine cw_seq ?_; refine cw_region ?_; refine wl_val rfl (ex_eql rfl rfl) ?_; refine wl_a ?_; refine wl_nil (nrm_then ?_); refine cw_if rfl (fun hc75 => ?_) (fun hc75 => ?_)
         ·skip
          refine cw_seq ?_; refine cw_seq ?_; refine cw_region ?_; refine wl_m ?_; refine wl_val rfl (ex_fieldAddr rfl Tryz.fld25_6) ?_; refine wl_val rfl (ex_load1 rfl Tryz.agg3 (cell_nth hB49 rfl)) ?_; refine wl_val rfl (ex_fieldAddr rfl Tryz.fld25_7) ?_; refine wl_val rfl (ex_load1 rfl Tryz.agg9 (cell_nth hB49 rfl)) ?_; have hszc := (hE46).size; have hlt3 := Lt.blk hB49; have hlt5 := Lt.blk hB50; refine wl_call1 (vs := [_, _, _]) Tryz.goes167 rfl (group_ok ⟨hB47, hO48, hne⟩ hl bl2) rfl ?_; rintro _ w114 ⟨gb, rfl, hgb, hw115, hgs⟩; have hE116 := hE46.step hw115 (fun y hy => .inl hy); have hB117 := hw115.blk hB49 (nmem2 hA5.symm hA6.symm); have hB118 := hw115.blk hB50 (nmem2 hA15.symm hA16.symm); refine wl_val rfl (ex_notb rfl) ?_; refine wl_nil (nrm_then ?_); refine cw_ifb rfl (fun hc83 => ?_) (fun hc83 => ?_)
          ·skip
           refine cw_seq ?_; refine cw_region ?_; refine wl_a ?_; refine wl_nil (nrm_then ?_); refine cw_ret (ret_then (ret_block (ret_then (body_ret1 rfl rfl ?_))))
           exact ⟨false, rfl, by simp only [Bool.false_eq_true, false_iff]; intro hh; obtain ⟨hh, hh2⟩ := hh; have hf := (nodeP_iff x).1 hh; (rw [hgb.2 (hh2 (by omega))] at hc83; cases hc83), hE116, fun h => by cases h⟩
          ·skip
           obtain ⟨a2, c2, ob2, hJ2, hob2⟩ := hgs (by simpa using hc83); have hgb2 := hgb.1 (by simpa using hc83); have hA3 := ap_ob hA6.symm hlt3 hob2; have hA5 := ap_ob hA16.symm hlt5 hob2; refine cw_skip (nrm_then ?_); refine cw_seq ?_; refine cw_region ?_; refine wl_val rfl (ex_fieldAddr rfl Tryz.fld25_6) ?_; refine wl_store1 rfl rfl (by first | rfl | assumption) Tryz.size3 hB118 rfl fun w119 hB120 hw121 => ?_; have hE122 := hE116.step hw121 hG18.mem1; have hB123 := hw121.blk hB117 hA17.nmem1; have hB124 := hw121.blk hJ2.blk hA15.nmem1; have hO125 := hJ2.own.evo hw121 hA5.symm.own1
           try simp only [List.setIfInBounds_toArray, List.set_cons_zero, List.set_cons_succ, Nat.reduceAdd, Nat.zero_add, Nat.add_zero] at hB120
           refine wl_val rfl (ex_fieldAddr rfl Tryz.fld25_7) ?_; refine wl_store1 rfl rfl (by first | rfl | assumption) Tryz.size9 hB120 rfl fun w126 hB127 hw128 => ?_; have hE129 := hE122.step hw128 hG18.mem1; have hB130 := hw128.blk hB123 hA17.nmem1; have hB131 := hw128.blk hB124 hA15.nmem1; have hO132 := hO125.evo hw128 hA5.symm.own1
           try simp only [List.setIfInBounds_toArray, List.set_cons_zero, List.set_cons_succ, Nat.reduceAdd, Nat.zero_add, Nat.add_zero] at hB127
           refine wl_nil (nrm_then ?_); refine cw_region ?_; refine wl_a ?_; refine wl_nil (nrm_block (nrm_then ?_)); refine cw_seq ?_; refine cw_region ?_; refine wl_val rfl (ex_fieldAddr rfl Tryz.fld25_8) ?_; refine wl_val rfl (ex_load1 rfl Tryz.agg23 (cell_nth hB130 rfl)) ?_; refine wl_val rfl (ex_len_slice rfl Tryz.underlying23 rfl) ?_; refine wl_m ?_; refine wl_val rfl (ex_eql rfl rfl) ?_; refine wl_m ?_; refine wl_split (t := 91) rfl (fun hs91 => ?_) (fun hs91 => ?_)
           ·skip
            refine wl_g ?_; refine wl_val rfl (ex_fieldAddr rfl Tryz.fld25_1) ?_; refine wl_g ?_; refine wl_val rfl (ex_load1 rfl Tryz.agg21 (cell_nth hB127 rfl)) ?_; refine wl_g ?_; refine wl_val rfl (ex_eql rfl rfl) ?_; refine wl_pt ?_; refine wl_m ?_; refine wl_split (t := 96) rfl (fun hs96 => ?_) (fun hs96 => ?_)
            ·skip
             refine wl_g ?_; refine wl_val rfl (ex_fieldAddr rfl Tryz.fld25_2) ?_; refine wl_g ?_; refine wl_val rfl (ex_load1 rfl Tryz.agg22 (cell_nth hB127 rfl)) ?_; refine wl_g ?_; refine wl_val rfl (ex_len_slice rfl Tryz.underlying22 rfl) ?_; refine wl_g ?_; refine wl_val rfl (ex_eql rfl rfl) ?_; refine wl_pt ?_; refine wl_m ?_; refine wl_split (t := 102) rfl (fun hs102 => ?_) (fun hs102 => ?_)
             ·skip
              refine wl_g ?_; refine wl_val rfl (ex_fieldAddr rfl Tryz.fld25_3) ?_; refine wl_g ?_; refine wl_val rfl (ex_load1 rfl Tryz.agg3 (cell_nth hB127 rfl)) ?_; refine wl_g ?_; refine wl_val rfl (ex_eql rfl rfl) ?_; refine wl_pt ?_; refine wl_m ?_; refine wl_split (t := 107) rfl (fun hs107 => ?_) (fun hs107 => ?_)
              ·skip
               refine wl_g ?_; refine wl_val rfl (ex_fieldAddr rfl Tryz.fld25_4) ?_; refine wl_g ?_; refine wl_val rfl (ex_load1 rfl Tryz.agg3 (cell_nth hB127 rfl)) ?_; refine wl_g ?_; refine wl_val rfl (ex_eql rfl rfl) ?_; refine wl_pt ?_; refine wl_m ?_; refine wl_split (t := 112) rfl (fun hs112 => ?_) (fun hs112 => ?_)
               ·skip
                refine wl_g ?_; refine wl_val rfl (ex_fieldAddr rfl Tryz.fld25_5) ?_; refine wl_g ?_; refine wl_val rfl (ex_load1 rfl Tryz.agg4 (cell_nth hB127 rfl)) ?_; refine wl_g ?_; refine wl_val rfl (ex_notb rfl) ?_; refine wl_pt ?_; refine wl_m ?_; refine wl_splitb (t := 117) rfl (fun hs117 => ?_) (fun hs117 => ?_)
                ·skip
                 refine wl_g ?_; refine wl_val rfl (ex_fieldAddr rfl Tryz.fld25_6) ?_; refine wl_g ?_; refine wl_val rfl (ex_load1 rfl Tryz.agg3 (cell_nth hB127 rfl)) ?_; refine wl_g ?_; refine wl_val rfl (ex_eql rfl rfl) ?_; refine wl_pt ?_; refine wl_m ?_; refine wl_split (t := 122) rfl (fun hs122 => ?_) (fun hs122 => ?_)
                 ·skip
                  refine wl_g ?_; refine wl_val rfl (ex_fieldAddr rfl Tryz.fld25_7) ?_; refine wl_g ?_; refine wl_val rfl (ex_load1 rfl Tryz.agg9 (cell_nth hB127 rfl)) ?_; refine wl_g ?_; refine wl_val rfl (ex_eqs rfl rfl) ?_; refine wl_pt ?_; refine wl_a ?_; refine wl_nil (nrm_then ?_); refine cw_ret (body_ret1 rfl rfl ?_); have hob3 : ob2 = ob ∨ ∃ g, ob2 = some g ∧ w.heap.size ≤ g := hob2.imp id (fun ⟨g, h1, h2⟩ => ⟨g, h1, Nat.le_trans hszc h2⟩)
                  have hlz : x.kind = 6 ∨ x.lazy = false := by first | (left; omega) | (right; simpa using hs117)
                  refine ⟨_, rfl, ?_, hE129, fun hb => ?_⟩
                  · simp only [decide_eq_true_eq]
                    constructor
                    · intro hnm
                      exact ⟨(nodeP_iff x).2 (by constructor <;> first | omega | (right; assumption) | (left; omega) | exact hlz | (intro hk; exact hcb.1 (by simpa using hc36)) | (intro hk; exfalso; omega)), by intro _; exact hgb2⟩
                    · intro hh; obtain ⟨hh, hh2⟩ := hh; have hf := (nodeP_iff x).1 hh; trivial
                  · rw [if_pos (by omega)]; exact ⟨a2, c2, ob2, ⟨hB131, hO132, hJ2.ne⟩, hob3⟩
                 ·skip
                  refine wl_n ?_; refine wl_n ?_; refine wl_n ?_; refine wl_pf ?_; refine wl_a ?_; refine wl_nil (nrm_then ?_); refine cw_ret (body_ret1 rfl rfl ?_)
                  exact ⟨false, rfl, by simp only [Bool.false_eq_true, false_iff]; intro hh; obtain ⟨hh, hh2⟩ := hh; have hf := (nodeP_iff x).1 hh; (have f1 := hf.zc; omega), hE129, fun h => by cases h⟩
                ·skip
                 refine wl_n ?_; refine wl_n ?_; refine wl_n ?_; refine wl_pf ?_; refine wl_m ?_; refine wl_n ?_; refine wl_n ?_; refine wl_n ?_; refine wl_pf ?_; refine wl_a ?_; refine wl_nil (nrm_then ?_); refine cw_ret (body_ret1 rfl rfl ?_)
                 exact ⟨false, rfl, by simp only [Bool.false_eq_true, false_iff]; intro hh; obtain ⟨hh, hh2⟩ := hh; have hf := (nodeP_iff x).1 hh; (first | (rcases hf.zl with h | h; omega; rw [h] at hs117; cases hs117; done) | cases hs117), hE129, fun h => by cases h⟩
               ·skip
                refine wl_n ?_; refine wl_n ?_; refine wl_n ?_; refine wl_pf ?_; refine wl_m ?_; refine wl_n ?_; refine wl_n ?_; refine wl_n ?_; refine wl_pf ?_; refine wl_m ?_; refine wl_n ?_; refine wl_n ?_; refine wl_n ?_; refine wl_pf ?_; refine wl_a ?_; refine wl_nil (nrm_then ?_); refine cw_ret (body_ret1 rfl rfl ?_)
                exact ⟨false, rfl, by simp only [Bool.false_eq_true, false_iff]; intro hh; obtain ⟨hh, hh2⟩ := hh; have hf := (nodeP_iff x).1 hh; (have f1 := hf.zm2; omega), hE129, fun h => by cases h⟩
              ·skip
               refine wl_n ?_; refine wl_n ?_; refine wl_n ?_; refine wl_pf ?_; refine wl_m ?_; refine wl_n ?_; refine wl_n ?_; refine wl_n ?_; refine wl_pf ?_; refine wl_m ?_; refine wl_n ?_; refine wl_n ?_; refine wl_n ?_; refine wl_pf ?_; refine wl_m ?_; refine wl_n ?_; refine wl_n ?_; refine wl_n ?_; refine wl_pf ?_; refine wl_a ?_; refine wl_nil (nrm_then ?_); refine cw_ret (body_ret1 rfl rfl ?_)
               exact ⟨false, rfl, by simp only [Bool.false_eq_true, false_iff]; intro hh; obtain ⟨hh, hh2⟩ := hh; have hf := (nodeP_iff x).1 hh; (have f1 := hf.zm1; omega), hE129, fun h => by cases h⟩
             ·skip
              refine wl_n ?_; refine wl_n ?_; refine wl_n ?_; refine wl_pf ?_; refine wl_m ?_; refine wl_n ?_; refine wl_n ?_; refine wl_n ?_; refine wl_pf ?_; refine wl_m ?_; refine wl_n ?_; refine wl_n ?_; refine wl_n ?_; refine wl_pf ?_; refine wl_m ?_; refine wl_n ?_; refine wl_n ?_; refine wl_n ?_; refine wl_pf ?_; refine wl_m ?_; refine wl_n ?_; refine wl_n ?_; refine wl_n ?_; refine wl_pf ?_; refine wl_a ?_; refine wl_nil (nrm_then ?_); refine cw_ret (body_ret1 rfl rfl ?_)
              exact ⟨false, rfl, by simp only [Bool.false_eq_true, false_iff]; intro hh; obtain ⟨hh, hh2⟩ := hh; have hf := (nodeP_iff x).1 hh; (have f1 := hf.zg; omega), hE129, fun h => by cases h⟩
            ·skip
             refine wl_n ?_; refine wl_n ?_; refine wl_n ?_; refine wl_n ?_; refine wl_pf ?_; refine wl_m ?_; refine wl_n ?_; refine wl_n ?_; refine wl_n ?_; refine wl_pf ?_; refine wl_m ?_; refine wl_n ?_; refine wl_n ?_; refine wl_n ?_; refine wl_pf ?_; refine wl_m ?_; refine wl_n ?_; refine wl_n ?_; refine wl_n ?_; refine wl_pf ?_; refine wl_m ?_; refine wl_n ?_; refine wl_n ?_; refine wl_n ?_; refine wl_pf ?_; refine wl_m ?_; refine wl_n ?_; refine wl_n ?_; refine wl_n ?_; refine wl_pf ?_; refine wl_a ?_; refine wl_nil (nrm_then ?_); refine cw_ret (body_ret1 rfl rfl ?_)
             exact ⟨false, rfl, by simp only [Bool.false_eq_true, false_iff]; intro hh; obtain ⟨hh, hh2⟩ := hh; have hf := (nodeP_iff x).1 hh; (have f1 := hf.zr; omega), hE129, fun h => by cases h⟩
           ·skip
            refine wl_n ?_; refine wl_n ?_; refine wl_n ?_; refine wl_pf ?_; refine wl_m ?_; refine wl_n ?_; refine wl_n ?_; refine wl_n ?_; refine wl_n ?_; refine wl_pf ?_; refine wl_m ?_; refine wl_n ?_; refine wl_n ?_; refine wl_n ?_; refine wl_pf ?_; refine wl_m ?_; refine wl_n ?_; refine wl_n ?_; refine wl_n ?_; refine wl_pf ?_; refine wl_m ?_; refine wl_n ?_; refine wl_n ?_; refine wl_n ?_; refine wl_pf ?_; refine wl_m ?_; refine wl_n ?_; refine wl_n ?_; refine wl_n ?_; refine wl_pf ?_; refine wl_m ?_; refine wl_n ?_; refine wl_n ?_; refine wl_n ?_; refine wl_pf ?_; refine wl_a ?_; refine wl_nil (nrm_then ?_); refine cw_ret (body_ret1 rfl rfl ?_)
            exact ⟨false, rfl, by simp only [Bool.false_eq_true, false_iff]; intro hh; obtain ⟨hh, hh2⟩ := hh; have hf := (nodeP_iff x).1 hh; (have f1 := hf.two; have f2 := hf.rep4; have f3 := hf.grp; have f4 := hf.leaf; omega), hE129, fun h => by cases h⟩
         ·skip
          refine cw_seq ?_; refine cw_region ?_; refine wl_a ?_; refine wl_nil (nrm_then ?_); refine cw_ret (ret_block (ret_then (body_ret1 rfl rfl ?_)))
          exact ⟨false, rfl, by simp only [Bool.false_eq_true, false_iff]; intro hh; obtain ⟨hh, hh2⟩ := hh; have hf := (nodeP_iff x).1 hh; (have f1 := hf.kind1; have f2 := hf.kind2; omega), hE46, fun h => by cases h⟩
      ·skip
       refine cw_region ?_; refine wl_val rfl (ex_eql rfl rfl) ?_; refine wl_a ?_; refine wl_nil (nrm_then ?_); refine cw_if rfl (fun hc38 => ?_) (fun hc38 => ?_)
       ·skip
        refine cw_region ?_; refine wl_val rfl (ex_fieldAddr rfl Tryz.fld25_8) ?_; refine wl_val rfl (ex_load1 rfl Tryz.agg23 (cell_nth hB49 rfl)) ?_; refine wl_val rfl (ex_len_slice rfl Tryz.underlying23 rfl) ?_; refine wl_val rfl (ex_max rfl rfl) ?_; refine wl_a ?_; refine wl_nil (nrm_block (nrm_then ?_)); refine cw_seq ?_; refine cw_region ?_; refine wl_val rfl (ex_fieldAddr rfl Tryz.fld25_8) ?_; refine wl_val rfl (ex_load1 rfl Tryz.agg23 (cell_nth hB49 rfl)) ?_; refine wl_val rfl (ex_len_slice rfl Tryz.underlying23 rfl) ?_; refine wl_m ?_; refine wl_val rfl (ex_eql rfl rfl) ?_; refine wl_m ?_; refine wl_split (t := 91) rfl (fun hs91 => ?_) (fun hs91 => ?_)
        ·skip
         refine wl_g ?_; refine wl_val rfl (ex_fieldAddr rfl Tryz.fld25_1) ?_; refine wl_g ?_; refine wl_val rfl (ex_load1 rfl Tryz.agg21 (cell_nth hB50 rfl)) ?_; refine wl_g ?_; refine wl_val rfl (ex_eql rfl rfl) ?_; refine wl_pt ?_; refine wl_m ?_; refine wl_split (t := 96) rfl (fun hs96 => ?_) (fun hs96 => ?_)
         ·skip
          refine wl_g ?_; refine wl_val rfl (ex_fieldAddr rfl Tryz.fld25_2) ?_; refine wl_g ?_; refine wl_val rfl (ex_load1 rfl Tryz.agg22 (cell_nth hB50 rfl)) ?_; refine wl_g ?_; refine wl_val rfl (ex_len_slice rfl Tryz.underlying22 rfl) ?_; refine wl_g ?_; refine wl_val rfl (ex_eql rfl rfl) ?_; refine wl_pt ?_; refine wl_m ?_; refine wl_split (t := 102) rfl (fun hs102 => ?_) (fun hs102 => ?_)
          ·skip
           refine wl_g ?_; refine wl_val rfl (ex_fieldAddr rfl Tryz.fld25_3) ?_; refine wl_g ?_; refine wl_val rfl (ex_load1 rfl Tryz.agg3 (cell_nth hB50 rfl)) ?_; refine wl_g ?_; refine wl_val rfl (ex_eql rfl rfl) ?_; refine wl_pt ?_; refine wl_m ?_; refine wl_split (t := 107) rfl (fun hs107 => ?_) (fun hs107 => ?_)
           ·skip
            refine wl_g ?_; refine wl_val rfl (ex_fieldAddr rfl Tryz.fld25_4) ?_; refine wl_g ?_; refine wl_val rfl (ex_load1 rfl Tryz.agg3 (cell_nth hB50 rfl)) ?_; refine wl_g ?_; refine wl_val rfl (ex_eql rfl rfl) ?_; refine wl_pt ?_; refine wl_m ?_; refine wl_split (t := 112) rfl (fun hs112 => ?_) (fun hs112 => ?_)
            ·skip
             refine wl_g ?_; refine wl_val rfl (ex_fieldAddr rfl Tryz.fld25_5) ?_; refine wl_g ?_; refine wl_val rfl (ex_load1 rfl Tryz.agg4 (cell_nth hB50 rfl)) ?_; refine wl_g ?_; refine wl_val rfl (ex_notb rfl) ?_; refine wl_pt ?_; refine wl_m ?_; refine wl_splitb (t := 117) rfl (fun hs117 => ?_) (fun hs117 => ?_)
             ·skip
              refine wl_g ?_; refine wl_val rfl (ex_fieldAddr rfl Tryz.fld25_6) ?_; refine wl_g ?_; refine wl_val rfl (ex_load1 rfl Tryz.agg3 (cell_nth hB50 rfl)) ?_; refine wl_g ?_; refine wl_val rfl (ex_eql rfl rfl) ?_; refine wl_pt ?_; refine wl_m ?_; refine wl_split (t := 122) rfl (fun hs122 => ?_) (fun hs122 => ?_)
              ·skip
               refine wl_g ?_; refine wl_val rfl (ex_fieldAddr rfl Tryz.fld25_7) ?_; refine wl_g ?_; refine wl_val rfl (ex_load1 rfl Tryz.agg9 (cell_nth hB50 rfl)) ?_; refine wl_g ?_; refine wl_val rfl (ex_eqs rfl rfl) ?_; refine wl_pt ?_; refine wl_a ?_; refine wl_nil (nrm_then ?_); refine cw_ret (body_ret1 rfl rfl ?_)
               have hlz : x.kind = 6 ∨ x.lazy = false := by first | (left; omega) | (right; simpa using hs117)
               refine ⟨_, rfl, ?_, hE46, fun hb => ?_⟩
               · simp only [decide_eq_true_eq]
                 constructor
                 · intro hnm
                   exact ⟨(nodeP_iff x).2 (by constructor <;> first | omega | (right; assumption) | (left; omega) | exact hlz | exact .inr hnm | (intro hk; exact hcb.1 (by simpa using hc36)) | (intro hk; exfalso; omega)), by intro hk; exfalso; omega⟩
                 · intro hh; obtain ⟨hh, hh2⟩ := hh; have hf := (nodeP_iff x).1 hh; exact hf.zn.resolve_left (by omega)
               · rw [if_neg (by omega)]; exact ⟨a, c, ob, ⟨hB47, hO48, hne⟩, .inl rfl⟩
              ·skip
               refine wl_n ?_; refine wl_n ?_; refine wl_n ?_; refine wl_pf ?_; refine wl_a ?_; refine wl_nil (nrm_then ?_); refine cw_ret (body_ret1 rfl rfl ?_)
               exact ⟨false, rfl, by simp only [Bool.false_eq_true, false_iff]; intro hh; obtain ⟨hh, hh2⟩ := hh; have hf := (nodeP_iff x).1 hh; (have f1 := hf.zc; omega), hE46, fun h => by cases h⟩
             ·skip
              refine wl_n ?_; refine wl_n ?_; refine wl_n ?_; refine wl_pf ?_; refine wl_m ?_; refine wl_n ?_; refine wl_n ?_; refine wl_n ?_; refine wl_pf ?_; refine wl_a ?_; refine wl_nil (nrm_then ?_); refine cw_ret (body_ret1 rfl rfl ?_)
              exact ⟨false, rfl, by simp only [Bool.false_eq_true, false_iff]; intro hh; obtain ⟨hh, hh2⟩ := hh; have hf := (nodeP_iff x).1 hh; (first | (rcases hf.zl with h | h; omega; rw [h] at hs117; cases hs117; done) | cases hs117), hE46, fun h => by cases h⟩
            ·skip
             refine wl_n ?_; refine wl_n ?_; refine wl_n ?_; refine wl_pf ?_; refine wl_m ?_; refine wl_n ?_; refine wl_n ?_; refine wl_n ?_; refine wl_pf ?_; refine wl_m ?_; refine wl_n ?_; refine wl_n ?_; refine wl_n ?_; refine wl_pf ?_; refine wl_a ?_; refine wl_nil (nrm_then ?_); refine cw_ret (body_ret1 rfl rfl ?_)
             exact ⟨false, rfl, by simp only [Bool.false_eq_true, false_iff]; intro hh; obtain ⟨hh, hh2⟩ := hh; have hf := (nodeP_iff x).1 hh; (have f1 := hf.zm2; omega), hE46, fun h => by cases h⟩
           ·skip
            refine wl_n ?_; refine wl_n ?_; refine wl_n ?_; refine wl_pf ?_; refine wl_m ?_; refine wl_n ?_; refine wl_n ?_; refine wl_n ?_; refine wl_pf ?_; refine wl_m ?_; refine wl_n ?_; refine wl_n ?_; refine wl_n ?_; refine wl_pf ?_; refine wl_m ?_; refine wl_n ?_; refine wl_n ?_; refine wl_n ?_; refine wl_pf ?_; refine wl_a ?_; refine wl_nil (nrm_then ?_); refine cw_ret (body_ret1 rfl rfl ?_)
            exact ⟨false, rfl, by simp only [Bool.false_eq_true, false_iff]; intro hh; obtain ⟨hh, hh2⟩ := hh; have hf := (nodeP_iff x).1 hh; (have f1 := hf.zm1; omega), hE46, fun h => by cases h⟩
          ·skip
           refine wl_n ?_; refine wl_n ?_; refine wl_n ?_; refine wl_pf ?_; refine wl_m ?_; refine wl_n ?_; refine wl_n ?_; refine wl_n ?_; refine wl_pf ?_; refine wl_m ?_; refine wl_n ?_; refine wl_n ?_; refine wl_n ?_; refine wl_pf ?_; refine wl_m ?_; refine wl_n ?_; refine wl_n ?_; refine wl_n ?_; refine wl_pf ?_; refine wl_m ?_; refine wl_n ?_; refine wl_n ?_; refine wl_n ?_; refine wl_pf ?_; refine wl_a ?_; refine wl_nil (nrm_then ?_); refine cw_ret (body_ret1 rfl rfl ?_)
           exact ⟨false, rfl, by simp only [Bool.false_eq_true, false_iff]; intro hh; obtain ⟨hh, hh2⟩ := hh; have hf := (nodeP_iff x).1 hh; (have f1 := hf.zg; omega), hE46, fun h => by cases h⟩
         ·skip
          refine wl_n ?_; refine wl_n ?_; refine wl_n ?_; refine wl_n ?_; refine wl_pf ?_; refine wl_m ?_; refine wl_n ?_; refine wl_n ?_; refine wl_n ?_; refine wl_pf ?_; refine wl_m ?_; refine wl_n ?_; refine wl_n ?_; refine wl_n ?_; refine wl_pf ?_; refine wl_m ?_; refine wl_n ?_; refine wl_n ?_; refine wl_n ?_; refine wl_pf ?_; refine wl_m ?_; refine wl_n ?_; refine wl_n ?_; refine wl_n ?_; refine wl_pf ?_; refine wl_m ?_; refine wl_n ?_; refine wl_n ?_; refine wl_n ?_; refine wl_pf ?_; refine wl_a ?_; refine wl_nil (nrm_then ?_); refine cw_ret (body_ret1 rfl rfl ?_)
          exact ⟨false, rfl, by simp only [Bool.false_eq_true, false_iff]; intro hh; obtain ⟨hh, hh2⟩ := hh; have hf := (nodeP_iff x).1 hh; (have f1 := hf.zr; omega), hE46, fun h => by cases h⟩
        ·skip
         refine wl_n ?_; refine wl_n ?_; refine wl_n ?_; refine wl_pf ?_; refine wl_m ?_; refine wl_n ?_; refine wl_n ?_; refine wl_n ?_; refine wl_n ?_; refine wl_pf ?_; refine wl_m ?_; refine wl_n ?_; refine wl_n ?_; refine wl_n ?_; refine wl_pf ?_; refine wl_m ?_; refine wl_n ?_; refine wl_n ?_; refine wl_n ?_; refine wl_pf ?_; refine wl_m ?_; refine wl_n ?_; refine wl_n ?_; refine wl_n ?_; refine wl_pf ?_; refine wl_m ?_; refine wl_n ?_; refine wl_n ?_; refine wl_n ?_; refine wl_pf ?_; refine wl_m ?_; refine wl_n ?_; refine wl_n ?_; refine wl_n ?_; refine wl_pf ?_; refine wl_a ?_; refine wl_nil (nrm_then ?_); refine cw_ret (body_ret1 rfl rfl ?_)
         exact ⟨false, rfl, by simp only [Bool.false_eq_true, false_iff]; intro hh; obtain ⟨hh, hh2⟩ := hh; have hf := (nodeP_iff x).1 hh; (have f1 := hf.two; have f2 := hf.rep4; have f3 := hf.grp; have f4 := hf.leaf; omega), hE46, fun h => by cases h⟩
       ·skip
        refine cw_seq ?_; refine cw_region ?_; refine wl_val rfl (ex_eql rfl rfl) ?_; refine wl_a ?_; refine wl_nil (nrm_then ?_); refine cw_if rfl (fun hc45 => ?_) (fun hc45 => ?_)
        ·skip
         refine cw_seq ?_; refine cw_seq ?_; refine cw_region ?_; refine wl_val rfl (ex_fieldAddr rfl Tryz.fld25_3) ?_; refine wl_val rfl (ex_load1 rfl Tryz.agg3 (cell_nth hB49 rfl)) ?_; refine wl_val rfl (ex_lss rfl rfl) ?_; refine wl_m ?_; refine wl_split (t := 50) rfl (fun hs50 => ?_) (fun hs50 => ?_)
         ·skip
          refine wl_n ?_; refine wl_n ?_; refine wl_n ?_; refine wl_pt ?_; refine wl_m ?_; refine wl_n ?_; refine wl_n ?_; refine wl_n ?_; refine wl_n ?_; refine wl_u ?_; refine wl_u ?_; refine wl_u ?_; refine wl_u ?_; refine wl_u ?_; refine wl_u ?_; refine wl_u ?_; refine wl_u ?_; refine wl_u ?_; refine wl_u ?_; refine wl_n ?_; refine wl_pt ?_; refine wl_nil (nrm_then ?_); refine cw_true rfl ?_; refine cw_seq ?_; refine cw_region ?_; refine wl_a ?_; refine wl_nil (nrm_then ?_); refine cw_ret (ret_then (ret_block (ret_then (body_ret1 rfl rfl ?_))))
          exact ⟨false, rfl, by simp only [Bool.false_eq_true, false_iff]; intro hh; obtain ⟨hh, hh2⟩ := hh; have hf := (nodeP_iff x).1 hh; (have f1 := hf.rep1; omega), hE46, fun h => by cases h⟩
         ·skip
          refine wl_g ?_; refine wl_val rfl (ex_fieldAddr rfl Tryz.fld25_3) ?_; refine wl_g ?_; refine wl_val rfl (ex_load1 rfl Tryz.agg3 (cell_nth hB49 rfl)) ?_; refine wl_g ?_; refine wl_val rfl (ex_gtr rfl rfl) ?_; refine wl_pf ?_; refine wl_m ?_; refine wl_split (t := 55) rfl (fun hs55 => ?_) (fun hs55 => ?_)
          ·skip
           refine wl_n ?_; refine wl_n ?_; refine wl_n ?_; refine wl_n ?_; refine wl_u ?_; refine wl_u ?_; refine wl_u ?_; refine wl_u ?_; refine wl_u ?_; refine wl_u ?_; refine wl_u ?_; refine wl_u ?_; refine wl_u ?_; refine wl_u ?_; refine wl_n ?_; refine wl_pt ?_; refine wl_nil (nrm_then ?_); refine cw_true rfl ?_; refine cw_seq ?_; refine cw_region ?_; refine wl_a ?_; refine wl_nil (nrm_then ?_); refine cw_ret (ret_then (ret_block (ret_then (body_ret1 rfl rfl ?_))))
           exact ⟨false, rfl, by simp only [Bool.false_eq_true, false_iff]; intro hh; obtain ⟨hh, hh2⟩ := hh; have hf := (nodeP_iff x).1 hh; (have f1 := hf.rep1; have f2 := hf.rep2; have f3 := hf.rep3; omega), hE46, fun h => by cases h⟩
          ·skip
           refine wl_g ?_; refine wl_val rfl (ex_fieldAddr rfl Tryz.fld25_4) ?_; refine wl_g ?_; refine wl_val rfl (ex_load1 rfl Tryz.agg3 (cell_nth hB49 rfl)) ?_; refine wl_g ?_; refine wl_val rfl (ex_neq rfl rfl) ?_; refine wl_g ?_; refine wl_m ?_; refine wl_split (t := 59) rfl (fun hs59 => ?_) (fun hs59 => ?_)
           ·skip
            refine wl_g ?_; refine wl_val rfl (ex_fieldAddr rfl Tryz.fld25_4) ?_; refine wl_g ?_; refine wl_val rfl (ex_load1 rfl Tryz.agg3 (cell_nth hB49 rfl)) ?_; refine wl_g ?_; refine wl_val rfl (ex_fieldAddr rfl Tryz.fld25_3) ?_; refine wl_g ?_; refine wl_val rfl (ex_load1 rfl Tryz.agg3 (cell_nth hB49 rfl)) ?_; refine wl_g ?_; refine wl_val rfl (ex_lss rfl rfl) ?_; refine wl_g ?_; refine wl_m ?_; refine wl_split (t := 65) rfl (fun hs65 => ?_) (fun hs65 => ?_)
            ·skip
             refine wl_n ?_; refine wl_n ?_; refine wl_n ?_; refine wl_g ?_; refine wl_pt ?_; refine wl_g ?_; refine wl_pt ?_; refine wl_pf ?_; refine wl_nil (nrm_then ?_); refine cw_true rfl ?_; refine cw_seq ?_; refine cw_region ?_; refine wl_a ?_; refine wl_nil (nrm_then ?_); refine cw_ret (ret_then (ret_block (ret_then (body_ret1 rfl rfl ?_))))
             exact ⟨false, rfl, by simp only [Bool.false_eq_true, false_iff]; intro hh; obtain ⟨hh, hh2⟩ := hh; have hf := (nodeP_iff x).1 hh; (have f1 := hf.rep1; have f2 := hf.rep2; have f3 := hf.rep3; omega), hE46, fun h => by cases h⟩
            ·skip
             refine wl_g ?_; refine wl_val rfl (ex_fieldAddr rfl Tryz.fld25_4) ?_; refine wl_g ?_; refine wl_val rfl (ex_load1 rfl Tryz.agg3 (cell_nth hB49 rfl)) ?_; refine wl_g ?_; refine wl_val rfl (ex_gtr rfl rfl) ?_; refine wl_g ?_; refine wl_pf ?_; refine wl_g ?_; refine wl_pt ?_; refine wl_pf ?_; refine wl_nil (nrm_then ?_); refine cw_if rfl (fun hc71 => ?_) (fun hc71 => ?_)
             ·skip
              refine cw_seq ?_; refine cw_region ?_; refine wl_a ?_; refine wl_nil (nrm_then ?_); refine cw_ret (ret_then (ret_block (ret_then (body_ret1 rfl rfl ?_))))
              exact ⟨false, rfl, by simp only [Bool.false_eq_true, false_iff]; intro hh; obtain ⟨hh, hh2⟩ := hh; have hf := (nodeP_iff x).1 hh; (have f1 := hf.rep1; have f2 := hf.rep2; have f3 := hf.rep3; omega), hE46, fun h => by cases h⟩
             ·skip
              refine cw_skip (nrm_then ?_); refine cw_seq ?_; refine cw_region ?_; refine wl_val rfl (ex_fieldAddr rfl Tryz.fld25_3) ?_; refine wl_store1 rfl rfl (by first | rfl | assumption) Tryz.size3 hB50 rfl fun w133 hB134 hw135 => ?_; have hE136 := hE46.step hw135 hG18.mem1; have hB137 := hw135.blk hB47 hA15.nmem1; have hO138 := hO48.evo hw135 hA16.own1; have hB139 := hw135.blk hB49 hA17.nmem1
              try simp only [List.setIfInBounds_toArray, List.set_cons_zero, List.set_cons_succ, Nat.reduceAdd, Nat.zero_add, Nat.add_zero] at hB134
              refine wl_val rfl (ex_fieldAddr rfl Tryz.fld25_4) ?_; refine wl_store1 rfl rfl (by first | rfl | assumption) Tryz.size3 hB134 rfl fun w140 hB141 hw142 => ?_; have hE143 := hE136.step hw142 hG18.mem1; have hB144 := hw142.blk hB137 hA15.nmem1; have hO145 := hO138.evo hw142 hA16.own1; have hB146 := hw142.blk hB139 hA17.nmem1
              try simp only [List.setIfInBounds_toArray, List.set_cons_zero, List.set_cons_succ, Nat.reduceAdd, Nat.zero_add, Nat.add_zero] at hB141
              refine wl_val rfl (ex_fieldAddr rfl Tryz.fld25_5) ?_; refine wl_store1 rfl rfl (by first | rfl | assumption) Tryz.size4 hB141 rfl fun w147 hB148 hw149 => ?_; have hE150 := hE143.step hw149 hG18.mem1; have hB151 := hw149.blk hB144 hA15.nmem1; have hO152 := hO145.evo hw149 hA16.own1; have hB153 := hw149.blk hB146 hA17.nmem1
              try simp only [List.setIfInBounds_toArray, List.set_cons_zero, List.set_cons_succ, Nat.reduceAdd, Nat.zero_add, Nat.add_zero] at hB148
              refine wl_nil (nrm_then ?_); refine cw_region ?_; refine wl_a ?_; refine wl_nil (nrm_block (nrm_then ?_)); refine cw_seq ?_; refine cw_region ?_; refine wl_val rfl (ex_fieldAddr rfl Tryz.fld25_8) ?_; refine wl_val rfl (ex_load1 rfl Tryz.agg23 (cell_nth hB153 rfl)) ?_; refine wl_val rfl (ex_len_slice rfl Tryz.underlying23 rfl) ?_; refine wl_m ?_; refine wl_val rfl (ex_eql rfl rfl) ?_; refine wl_m ?_; refine wl_split (t := 91) rfl (fun hs91 => ?_) (fun hs91 => ?_)
              ·skip
               refine wl_g ?_; refine wl_val rfl (ex_fieldAddr rfl Tryz.fld25_1) ?_; refine wl_g ?_; refine wl_val rfl (ex_load1 rfl Tryz.agg21 (cell_nth hB148 rfl)) ?_; refine wl_g ?_; refine wl_val rfl (ex_eql rfl rfl) ?_; refine wl_pt ?_; refine wl_m ?_; refine wl_split (t := 96) rfl (fun hs96 => ?_) (fun hs96 => ?_)
               ·skip
                refine wl_g ?_; refine wl_val rfl (ex_fieldAddr rfl Tryz.fld25_2) ?_; refine wl_g ?_; refine wl_val rfl (ex_load1 rfl Tryz.agg22 (cell_nth hB148 rfl)) ?_; refine wl_g ?_; refine wl_val rfl (ex_len_slice rfl Tryz.underlying22 rfl) ?_; refine wl_g ?_; refine wl_val rfl (ex_eql rfl rfl) ?_; refine wl_pt ?_; refine wl_m ?_; refine wl_split (t := 102) rfl (fun hs102 => ?_) (fun hs102 => ?_)
                ·skip
                 refine wl_g ?_; refine wl_val rfl (ex_fieldAddr rfl Tryz.fld25_3) ?_; refine wl_g ?_; refine wl_val rfl (ex_load1 rfl Tryz.agg3 (cell_nth hB148 rfl)) ?_; refine wl_g ?_; refine wl_val rfl (ex_eql rfl rfl) ?_; refine wl_pt ?_; refine wl_m ?_; refine wl_split (t := 107) rfl (fun hs107 => ?_) (fun hs107 => ?_)
                 ·skip
                  refine wl_g ?_; refine wl_val rfl (ex_fieldAddr rfl Tryz.fld25_4) ?_; refine wl_g ?_; refine wl_val rfl (ex_load1 rfl Tryz.agg3 (cell_nth hB148 rfl)) ?_; refine wl_g ?_; refine wl_val rfl (ex_eql rfl rfl) ?_; refine wl_pt ?_; refine wl_m ?_; refine wl_split (t := 112) rfl (fun hs112 => ?_) (fun hs112 => ?_)
                  ·skip
                   refine wl_g ?_; refine wl_val rfl (ex_fieldAddr rfl Tryz.fld25_5) ?_; refine wl_g ?_; refine wl_val rfl (ex_load1 rfl Tryz.agg4 (cell_nth hB148 rfl)) ?_; refine wl_g ?_; refine wl_val rfl (ex_notb rfl) ?_; refine wl_pt ?_; refine wl_m ?_; refine wl_splitb (t := 117) rfl (fun hs117 => ?_) (fun hs117 => ?_)
                   ·skip
                    refine wl_g ?_; refine wl_val rfl (ex_fieldAddr rfl Tryz.fld25_6) ?_; refine wl_g ?_; refine wl_val rfl (ex_load1 rfl Tryz.agg3 (cell_nth hB148 rfl)) ?_; refine wl_g ?_; refine wl_val rfl (ex_eql rfl rfl) ?_; refine wl_pt ?_; refine wl_m ?_; refine wl_split (t := 122) rfl (fun hs122 => ?_) (fun hs122 => ?_)
                    ·skip
                     refine wl_g ?_; refine wl_val rfl (ex_fieldAddr rfl Tryz.fld25_7) ?_; refine wl_g ?_; refine wl_val rfl (ex_load1 rfl Tryz.agg9 (cell_nth hB148 rfl)) ?_; refine wl_g ?_; refine wl_val rfl (ex_eqs rfl rfl) ?_; refine wl_pt ?_; refine wl_a ?_; refine wl_nil (nrm_then ?_); refine cw_ret (body_ret1 rfl rfl ?_)
                     have hlz : x.kind = 6 ∨ x.lazy = false := by first | (left; omega) | (right; simpa using hs117)
                     refine ⟨_, rfl, ?_, hE150, fun hb => ?_⟩
                     · simp only [decide_eq_true_eq]
                       constructor
                       · intro hnm
                         exact ⟨(nodeP_iff x).2 (by constructor <;> first | omega | (right; assumption) | (left; omega) | exact hlz | exact .inr hnm | (intro hk; exact hcb.1 (by simpa using hc36)) | (intro hk; exfalso; omega)), by intro hk; exfalso; omega⟩
                       · intro hh; obtain ⟨hh, hh2⟩ := hh; have hf := (nodeP_iff x).1 hh; exact hf.zn.resolve_left (by omega)
                     · rw [if_neg (by omega)]; exact ⟨a, c, ob, ⟨hB151, hO152, hne⟩, .inl rfl⟩
                    ·skip
                     refine wl_n ?_; refine wl_n ?_; refine wl_n ?_; refine wl_pf ?_; refine wl_a ?_; refine wl_nil (nrm_then ?_); refine cw_ret (body_ret1 rfl rfl ?_)
                     exact ⟨false, rfl, by simp only [Bool.false_eq_true, false_iff]; intro hh; obtain ⟨hh, hh2⟩ := hh; have hf := (nodeP_iff x).1 hh; (have f1 := hf.zc; omega), hE150, fun h => by cases h⟩
                   ·skip
                    refine wl_n ?_; refine wl_n ?_; refine wl_n ?_; refine wl_pf ?_; refine wl_m ?_; refine wl_n ?_; refine wl_n ?_; refine wl_n ?_; refine wl_pf ?_; refine wl_a ?_; refine wl_nil (nrm_then ?_); refine cw_ret (body_ret1 rfl rfl ?_)
                    exact ⟨false, rfl, by simp only [Bool.false_eq_true, false_iff]; intro hh; obtain ⟨hh, hh2⟩ := hh; have hf := (nodeP_iff x).1 hh; (first | (rcases hf.zl with h | h; omega; rw [h] at hs117; cases hs117; done) | cases hs117), hE150, fun h => by cases h⟩
                  ·skip
                   refine wl_n ?_; refine wl_n ?_; refine wl_n ?_; refine wl_pf ?_; refine wl_m ?_; refine wl_n ?_; refine wl_n ?_; refine wl_n ?_; refine wl_pf ?_; refine wl_m ?_; refine wl_n ?_; refine wl_n ?_; refine wl_n ?_; refine wl_pf ?_; refine wl_a ?_; refine wl_nil (nrm_then ?_); refine cw_ret (body_ret1 rfl rfl ?_)
                   exact ⟨false, rfl, by simp only [Bool.false_eq_true, false_iff]; intro hh; obtain ⟨hh, hh2⟩ := hh; have hf := (nodeP_iff x).1 hh; (have f1 := hf.zm2; omega), hE150, fun h => by cases h⟩
                 ·skip
                  refine wl_n ?_; refine wl_n ?_; refine wl_n ?_; refine wl_pf ?_; refine wl_m ?_; refine wl_n ?_; refine wl_n ?_; refine wl_n ?_; refine wl_pf ?_; refine wl_m ?_; refine wl_n ?_; refine wl_n ?_; refine wl_n ?_; refine wl_pf ?_; refine wl_m ?_; refine wl_n ?_; refine wl_n ?_; refine wl_n ?_; refine wl_pf ?_; refine wl_a ?_; refine wl_nil (nrm_then ?_); refine cw_ret (body_ret1 rfl rfl ?_)
                  exact ⟨false, rfl, by simp only [Bool.false_eq_true, false_iff]; intro hh; obtain ⟨hh, hh2⟩ := hh; have hf := (nodeP_iff x).1 hh; (have f1 := hf.zm1; omega), hE150, fun h => by cases h⟩
                ·skip
                 refine wl_n ?_; refine wl_n ?_; refine wl_n ?_; refine wl_pf ?_; refine wl_m ?_; refine wl_n ?_; refine wl_n ?_; refine wl_n ?_; refine wl_pf ?_; refine wl_m ?_; refine wl_n ?_; refine wl_n ?_; refine wl_n ?_; refine wl_pf ?_; refine wl_m ?_; refine wl_n ?_; refine wl_n ?_; refine wl_n ?_; refine wl_pf ?_; refine wl_m ?_; refine wl_n ?_; refine wl_n ?_; refine wl_n ?_; refine wl_pf ?_; refine wl_a ?_; refine wl_nil (nrm_then ?_); refine cw_ret (body_ret1 rfl rfl ?_)
                 exact ⟨false, rfl, by simp only [Bool.false_eq_true, false_iff]; intro hh; obtain ⟨hh, hh2⟩ := hh; have hf := (nodeP_iff x).1 hh; (have f1 := hf.zg; omega), hE150, fun h => by cases h⟩
               ·skip
                refine wl_n ?_; refine wl_n ?_; refine wl_n ?_; refine wl_n ?_; refine wl_pf ?_; refine wl_m ?_; refine wl_n ?_; refine wl_n ?_; refine wl_n ?_; refine wl_pf ?_; refine wl_m ?_; refine wl_n ?_; refine wl_n ?_; refine wl_n ?_; refine wl_pf ?_; refine wl_m ?_; refine wl_n ?_; refine wl_n ?_; refine wl_n ?_; refine wl_pf ?_; refine wl_m ?_; refine wl_n ?_; refine wl_n ?_; refine wl_n ?_; refine wl_pf ?_; refine wl_m ?_; refine wl_n ?_; refine wl_n ?_; refine wl_n ?_; refine wl_pf ?_; refine wl_a ?_; refine wl_nil (nrm_then ?_); refine cw_ret (body_ret1 rfl rfl ?_)
                exact ⟨false, rfl, by simp only [Bool.false_eq_true, false_iff]; intro hh; obtain ⟨hh, hh2⟩ := hh; have hf := (nodeP_iff x).1 hh; (have f1 := hf.zr; omega), hE150, fun h => by cases h⟩
              ·skip
               refine wl_n ?_; refine wl_n ?_; refine wl_n ?_; refine wl_pf ?_; refine wl_m ?_; refine wl_n ?_; refine wl_n ?_; refine wl_n ?_; refine wl_n ?_; refine wl_pf ?_; refine wl_m ?_; refine wl_n ?_; refine wl_n ?_; refine wl_n ?_; refine wl_pf ?_; refine wl_m ?_; refine wl_n ?_; refine wl_n ?_; refine wl_n ?_; refine wl_pf ?_; refine wl_m ?_; refine wl_n ?_; refine wl_n ?_; refine wl_n ?_; refine wl_pf ?_; refine wl_m ?_; refine wl_n ?_; refine wl_n ?_; refine wl_n ?_; refine wl_pf ?_; refine wl_m ?_; refine wl_n ?_; refine wl_n ?_; refine wl_n ?_; refine wl_pf ?_; refine wl_a ?_; refine wl_nil (nrm_then ?_); refine cw_ret (body_ret1 rfl rfl ?_)
               exact ⟨false, rfl, by simp only [Bool.false_eq_true, false_iff]; intro hh; obtain ⟨hh, hh2⟩ := hh; have hf := (nodeP_iff x).1 hh; (have f1 := hf.two; have f2 := hf.rep4; have f3 := hf.grp; have f4 := hf.leaf; omega), hE150, fun h => by cases h⟩
           ·skip
            refine wl_n ?_; refine wl_n ?_; refine wl_n ?_; refine wl_n ?_; refine wl_n ?_; refine wl_n ?_; refine wl_u ?_; refine wl_u ?_; refine wl_u ?_; refine wl_n ?_; refine wl_g ?_; refine wl_pf ?_; refine wl_pf ?_; refine wl_nil (nrm_then ?_); refine cw_false rfl ?_; refine cw_skip (nrm_then ?_); refine cw_seq ?_; refine cw_region ?_; refine wl_val rfl (ex_fieldAddr rfl Tryz.fld25_3) ?_; refine wl_store1 rfl rfl (by first | rfl | assumption) Tryz.size3 hB50 rfl fun w154 hB155 hw156 => ?_; have hE157 := hE46.step hw156 hG18.mem1; have hB158 := hw156.blk hB47 hA15.nmem1; have hO159 := hO48.evo hw156 hA16.own1; have hB160 := hw156.blk hB49 hA17.nmem1
            try simp only [List.setIfInBounds_toArray, List.set_cons_zero, List.set_cons_succ, Nat.reduceAdd, Nat.zero_add, Nat.add_zero] at hB155
            refine wl_val rfl (ex_fieldAddr rfl Tryz.fld25_4) ?_; refine wl_store1 rfl rfl (by first | rfl | assumption) Tryz.size3 hB155 rfl fun w161 hB162 hw163 => ?_; have hE164 := hE157.step hw163 hG18.mem1; have hB165 := hw163.blk hB158 hA15.nmem1; have hO166 := hO159.evo hw163 hA16.own1; have hB167 := hw163.blk hB160 hA17.nmem1
            try simp only [List.setIfInBounds_toArray, List.set_cons_zero, List.set_cons_succ, Nat.reduceAdd, Nat.zero_add, Nat.add_zero] at hB162
            refine wl_val rfl (ex_fieldAddr rfl Tryz.fld25_5) ?_; refine wl_store1 rfl rfl (by first | rfl | assumption) Tryz.size4 hB162 rfl fun w168 hB169 hw170 => ?_; have hE171 := hE164.step hw170 hG18.mem1; have hB172 := hw170.blk hB165 hA15.nmem1; have hO173 := hO166.evo hw170 hA16.own1; have hB174 := hw170.blk hB167 hA17.nmem1
            try simp only [List.setIfInBounds_toArray, List.set_cons_zero, List.set_cons_succ, Nat.reduceAdd, Nat.zero_add, Nat.add_zero] at hB169
            refine wl_nil (nrm_then ?_); refine cw_region ?_; refine wl_a ?_; refine wl_nil (nrm_block (nrm_then ?_)); refine cw_seq ?_; refine cw_region ?_; refine wl_val rfl (ex_fieldAddr rfl Tryz.fld25_8) ?_; refine wl_val rfl (ex_load1 rfl Tryz.agg23 (cell_nth hB174 rfl)) ?_; refine wl_val rfl (ex_len_slice rfl Tryz.underlying23 rfl) ?_; refine wl_m ?_; refine wl_val rfl (ex_eql rfl rfl) ?_; refine wl_m ?_; refine wl_split (t := 91) rfl (fun hs91 => ?_) (fun hs91 => ?_)
            ·skip
             refine wl_g ?_; refine wl_val rfl (ex_fieldAddr rfl Tryz.fld25_1) ?_; refine wl_g ?_; refine wl_val rfl (ex_load1 rfl Tryz.agg21 (cell_nth hB169 rfl)) ?_; refine wl_g ?_; refine wl_val rfl (ex_eql rfl rfl) ?_; refine wl_pt ?_; refine wl_m ?_; refine wl_split (t := 96) rfl (fun hs96 => ?_) (fun hs96 => ?_)
             ·skip
              refine wl_g ?_; refine wl_val rfl (ex_fieldAddr rfl Tryz.fld25_2) ?_; refine wl_g ?_; refine wl_val rfl (ex_load1 rfl Tryz.agg22 (cell_nth hB169 rfl)) ?_; refine wl_g ?_; refine wl_val rfl (ex_len_slice rfl Tryz.underlying22 rfl) ?_; refine wl_g ?_; refine wl_val rfl (ex_eql rfl rfl) ?_; refine wl_pt ?_; refine wl_m ?_; refine wl_split (t := 102) rfl (fun hs102 => ?_) (fun hs102 => ?_)
              ·skip
               refine wl_g ?_; refine wl_val rfl (ex_fieldAddr rfl Tryz.fld25_3) ?_; refine wl_g ?_; refine wl_val rfl (ex_load1 rfl Tryz.agg3 (cell_nth hB169 rfl)) ?_; refine wl_g ?_; refine wl_val rfl (ex_eql rfl rfl) ?_; refine wl_pt ?_; refine wl_m ?_; refine wl_split (t := 107) rfl (fun hs107 => ?_) (fun hs107 => ?_)
               ·skip
                refine wl_g ?_; refine wl_val rfl (ex_fieldAddr rfl Tryz.fld25_4) ?_; refine wl_g ?_; refine wl_val rfl (ex_load1 rfl Tryz.agg3 (cell_nth hB169 rfl)) ?_; refine wl_g ?_; refine wl_val rfl (ex_eql rfl rfl) ?_; refine wl_pt ?_; refine wl_m ?_; refine wl_split (t := 112) rfl (fun hs112 => ?_) (fun hs112 => ?_)
                ·skip
                 refine wl_g ?_; refine wl_val rfl (ex_fieldAddr rfl Tryz.fld25_5) ?_; refine wl_g ?_; refine wl_val rfl (ex_load1 rfl Tryz.agg4 (cell_nth hB169 rfl)) ?_; refine wl_g ?_; refine wl_val rfl (ex_notb rfl) ?_; refine wl_pt ?_; refine wl_m ?_; refine wl_splitb (t := 117) rfl (fun hs117 => ?_) (fun hs117 => ?_)
                 ·skip
                  refine wl_g ?_; refine wl_val rfl (ex_fieldAddr rfl Tryz.fld25_6) ?_; refine wl_g ?_; refine wl_val rfl (ex_load1 rfl Tryz.agg3 (cell_nth hB169 rfl)) ?_; refine wl_g ?_; refine wl_val rfl (ex_eql rfl rfl) ?_; refine wl_pt ?_; refine wl_m ?_; refine wl_split (t := 122) rfl (fun hs122 => ?_) (fun hs122 => ?_)
                  ·skip
                   refine wl_g ?_; refine wl_val rfl (ex_fieldAddr rfl Tryz.fld25_7) ?_; refine wl_g ?_; refine wl_val rfl (ex_load1 rfl Tryz.agg9 (cell_nth hB169 rfl)) ?_; refine wl_g ?_; refine wl_val rfl (ex_eqs rfl rfl) ?_; refine wl_pt ?_; refine wl_a ?_; refine wl_nil (nrm_then ?_); refine cw_ret (body_ret1 rfl rfl ?_)
                   have hlz : x.kind = 6 ∨ x.lazy = false := by first | (left; omega) | (right; simpa using hs117)
                   refine ⟨_, rfl, ?_, hE171, fun hb => ?_⟩
                   · simp only [decide_eq_true_eq]
                     constructor
                     · intro hnm
                       exact ⟨(nodeP_iff x).2 (by constructor <;> first | omega | (right; assumption) | (left; omega) | exact hlz | exact .inr hnm | (intro hk; exact hcb.1 (by simpa using hc36)) | (intro hk; exfalso; omega)), by intro hk; exfalso; omega⟩
                     · intro hh; obtain ⟨hh, hh2⟩ := hh; have hf := (nodeP_iff x).1 hh; exact hf.zn.resolve_left (by omega)
                   · rw [if_neg (by omega)]; exact ⟨a, c, ob, ⟨hB172, hO173, hne⟩, .inl rfl⟩
                  ·skip
                   refine wl_n ?_; refine wl_n ?_; refine wl_n ?_; refine wl_pf ?_; refine wl_a ?_; refine wl_nil (nrm_then ?_); refine cw_ret (body_ret1 rfl rfl ?_)
                   exact ⟨false, rfl, by simp only [Bool.false_eq_true, false_iff]; intro hh; obtain ⟨hh, hh2⟩ := hh; have hf := (nodeP_iff x).1 hh; (have f1 := hf.zc; omega), hE171, fun h => by cases h⟩
                 ·skip
                  refine wl_n ?_; refine wl_n ?_; refine wl_n ?_; refine wl_pf ?_; refine wl_m ?_; refine wl_n ?_; refine wl_n ?_; refine wl_n ?_; refine wl_pf ?_; refine wl_a ?_; refine wl_nil (nrm_then ?_); refine cw_ret (body_ret1 rfl rfl ?_)
                  exact ⟨false, rfl, by simp only [Bool.false_eq_true, false_iff]; intro hh; obtain ⟨hh, hh2⟩ := hh; have hf := (nodeP_iff x).1 hh; (first | (rcases hf.zl with h | h; omega; rw [h] at hs117; cases hs117; done) | cases hs117), hE171, fun h => by cases h⟩
                ·skip
                 refine wl_n ?_; refine wl_n ?_; refine wl_n ?_; refine wl_pf ?_; refine wl_m ?_; refine wl_n ?_; refine wl_n ?_; refine wl_n ?_; refine wl_pf ?_; refine wl_m ?_; refine wl_n ?_; refine wl_n ?_; refine wl_n ?_; refine wl_pf ?_; refine wl_a ?_; refine wl_nil (nrm_then ?_); refine cw_ret (body_ret1 rfl rfl ?_)
                 exact ⟨false, rfl, by simp only [Bool.false_eq_true, false_iff]; intro hh; obtain ⟨hh, hh2⟩ := hh; have hf := (nodeP_iff x).1 hh; (have f1 := hf.zm2; omega), hE171, fun h => by cases h⟩
               ·skip
                refine wl_n ?_; refine wl_n ?_; refine wl_n ?_; refine wl_pf ?_; refine wl_m ?_; refine wl_n ?_; refine wl_n ?_; refine wl_n ?_; refine wl_pf ?_; refine wl_m ?_; refine wl_n ?_; refine wl_n ?_; refine wl_n ?_; refine wl_pf ?_; refine wl_m ?_; refine wl_n ?_; refine wl_n ?_; refine wl_n ?_; refine wl_pf ?_; refine wl_a ?_; refine wl_nil (nrm_then ?_); refine cw_ret (body_ret1 rfl rfl ?_)
                exact ⟨false, rfl, by simp only [Bool.false_eq_true, false_iff]; intro hh; obtain ⟨hh, hh2⟩ := hh; have hf := (nodeP_iff x).1 hh; (have f1 := hf.zm1; omega), hE171, fun h => by cases h⟩
              ·skip
               refine wl_n ?_; refine wl_n ?_; refine wl_n ?_; refine wl_pf ?_; refine wl_m ?_; refine wl_n ?_; refine wl_n ?_; refine wl_n ?_; refine wl_pf ?_; refine wl_m ?_; refine wl_n ?_; refine wl_n ?_; refine wl_n ?_; refine wl_pf ?_; refine wl_m ?_; refine wl_n ?_; refine wl_n ?_; refine wl_n ?_; refine wl_pf ?_; refine wl_m ?_; refine wl_n ?_; refine wl_n ?_; refine wl_n ?_; refine wl_pf ?_; refine wl_a ?_; refine wl_nil (nrm_then ?_); refine cw_ret (body_ret1 rfl rfl ?_)
               exact ⟨false, rfl, by simp only [Bool.false_eq_true, false_iff]; intro hh; obtain ⟨hh, hh2⟩ := hh; have hf := (nodeP_iff x).1 hh; (have f1 := hf.zg; omega), hE171, fun h => by cases h⟩
             ·skip
              refine wl_n ?_; refine wl_n ?_; refine wl_n ?_; refine wl_n ?_; refine wl_pf ?_; refine wl_m ?_; refine wl_n ?_; refine wl_n ?_; refine wl_n ?_; refine wl_pf ?_; refine wl_m ?_; refine wl_n ?_; refine wl_n ?_; refine wl_n ?_; refine wl_pf ?_; refine wl_m ?_; refine wl_n ?_; refine wl_n ?_; refine wl_n ?_; refine wl_pf ?_; refine wl_m ?_; refine wl_n ?_; refine wl_n ?_; refine wl_n ?_; refine wl_pf ?_; refine wl_m ?_; refine wl_n ?_; refine wl_n ?_; refine wl_n ?_; refine wl_pf ?_; refine wl_a ?_; refine wl_nil (nrm_then ?_); refine cw_ret (body_ret1 rfl rfl ?_)
              exact ⟨false, rfl, by simp only [Bool.false_eq_true, false_iff]; intro hh; obtain ⟨hh, hh2⟩ := hh; have hf := (nodeP_iff x).1 hh; (have f1 := hf.zr; omega), hE171, fun h => by cases h⟩
            ·skip
             refine wl_n ?_; refine wl_n ?_; refine wl_n ?_; refine wl_pf ?_; refine wl_m ?_; refine wl_n ?_; refine wl_n ?_; refine wl_n ?_; refine wl_n ?_; refine wl_pf ?_; refine wl_m ?_; refine wl_n ?_; refine wl_n ?_; refine wl_n ?_; refine wl_pf ?_; refine wl_m ?_; refine wl_n ?_; refine wl_n ?_; refine wl_n ?_; refine wl_pf ?_; refine wl_m ?_; refine wl_n ?_; refine wl_n ?_; refine wl_n ?_; refine wl_pf ?_; refine wl_m ?_; refine wl_n ?_; refine wl_n ?_; refine wl_n ?_; refine wl_pf ?_; refine wl_m ?_; refine wl_n ?_; refine wl_n ?_; refine wl_n ?_; refine wl_pf ?_; refine wl_a ?_; refine wl_nil (nrm_then ?_); refine cw_ret (body_ret1 rfl rfl ?_)
             exact ⟨false, rfl, by simp only [Bool.false_eq_true, false_iff]; intro hh; obtain ⟨hh, hh2⟩ := hh; have hf := (nodeP_iff x).1 hh; (have f1 := hf.two; have f2 := hf.rep4; have f3 := hf.grp; have f4 := hf.leaf; omega), hE171, fun h => by cases h⟩
        ·skip
         refine cw_seq ?_; refine cw_region ?_; refine wl_val rfl (ex_eql rfl rfl) ?_; refine wl_a ?_; refine wl_nil (nrm_then ?_); refine cw_if rfl (fun hc75 => ?_) (fun hc75 => ?_)
         ·skip
          refine cw_seq ?_; refine cw_seq ?_; refine cw_region ?_; refine wl_m ?_; refine wl_val rfl (ex_fieldAddr rfl Tryz.fld25_6) ?_; refine wl_val rfl (ex_load1 rfl Tryz.agg3 (cell_nth hB49 rfl)) ?_; refine wl_val rfl (ex_fieldAddr rfl Tryz.fld25_7) ?_; refine wl_val rfl (ex_load1 rfl Tryz.agg9 (cell_nth hB49 rfl)) ?_; have hszc := (hE46).size; have hlt3 := Lt.blk hB49; have hlt5 := Lt.blk hB50; refine wl_call1 (vs := [_, _, _]) Tryz.goes167 rfl (group_ok ⟨hB47, hO48, hne⟩ hl bl2) rfl ?_; rintro _ w175 ⟨gb, rfl, hgb, hw176, hgs⟩; have hE177 := hE46.step hw176 (fun y hy => .inl hy); have hB178 := hw176.blk hB49 (nmem2 hA5.symm hA6.symm); have hB179 := hw176.blk hB50 (nmem2 hA15.symm hA16.symm); refine wl_val rfl (ex_notb rfl) ?_; refine wl_nil (nrm_then ?_); refine cw_ifb rfl (fun hc83 => ?_) (fun hc83 => ?_)
          ·skip
           refine cw_seq ?_; refine cw_region ?_; refine wl_a ?_; refine wl_nil (nrm_then ?_); refine cw_ret (ret_then (ret_block (ret_then (body_ret1 rfl rfl ?_))))
           exact ⟨false, rfl, by simp only [Bool.false_eq_true, false_iff]; intro hh; obtain ⟨hh, hh2⟩ := hh; have hf := (nodeP_iff x).1 hh; (rw [hgb.2 (hh2 (by omega))] at hc83; cases hc83), hE177, fun h => by cases h⟩
          ·skip
           obtain ⟨a2, c2, ob2, hJ2, hob2⟩ := hgs (by simpa using hc83); have hgb2 := hgb.1 (by simpa using hc83); have hA3 := ap_ob hA6.symm hlt3 hob2; have hA5 := ap_ob hA16.symm hlt5 hob2; refine cw_skip (nrm_then ?_); refine cw_seq ?_; refine cw_region ?_; refine wl_val rfl (ex_fieldAddr rfl Tryz.fld25_6) ?_; refine wl_store1 rfl rfl (by first | rfl | assumption) Tryz.size3 hB179 rfl fun w180 hB181 hw182 => ?_; have hE183 := hE177.step hw182 hG18.mem1; have hB184 := hw182.blk hB178 hA17.nmem1; have hB185 := hw182.blk hJ2.blk hA15.nmem1; have hO186 := hJ2.own.evo hw182 hA5.symm.own1
           try simp only [List.setIfInBounds_toArray, List.set_cons_zero, List.set_cons_succ, Nat.reduceAdd, Nat.zero_add, Nat.add_zero] at hB181
           refine wl_val rfl (ex_fieldAddr rfl Tryz.fld25_7) ?_; refine wl_store1 rfl rfl (by first | rfl | assumption) Tryz.size9 hB181 rfl fun w187 hB188 hw189 => ?_; have hE190 := hE183.step hw189 hG18.mem1; have hB191 := hw189.blk hB184 hA17.nmem1; have hB192 := hw189.blk hB185 hA15.nmem1; have hO193 := hO186.evo hw189 hA5.symm.own1
           try simp only [List.setIfInBounds_toArray, List.set_cons_zero, List.set_cons_succ, Nat.reduceAdd, Nat.zero_add, Nat.add_zero] at hB188
           refine wl_nil (nrm_then ?_); refine cw_region ?_; refine wl_a ?_; refine wl_nil (nrm_block (nrm_then ?_)); refine cw_seq ?_; refine cw_region ?_; refine wl_val rfl (ex_fieldAddr rfl Tryz.fld25_8) ?_; refine wl_val rfl (ex_load1 rfl Tryz.agg23 (cell_nth hB191 rfl)) ?_; refine wl_val rfl (ex_len_slice rfl Tryz.underlying23 rfl) ?_; refine wl_m ?_; refine wl_val rfl (ex_eql rfl rfl) ?_; refine wl_m ?_; refine wl_split (t := 91) rfl (fun hs91 => ?_) (fun hs91 => ?_)
           ·skip
            refine wl_g ?_; refine wl_val rfl (ex_fieldAddr rfl Tryz.fld25_1) ?_; refine wl_g ?_; refine wl_val rfl (ex_load1 rfl Tryz.agg21 (cell_nth hB188 rfl)) ?_; refine wl_g ?_; refine wl_val rfl (ex_eql rfl rfl) ?_; refine wl_pt ?_; refine wl_m ?_; refine wl_split (t := 96) rfl (fun hs96 => ?_) (fun hs96 => ?_)
            ·skip
             refine wl_g ?_; refine wl_val rfl (ex_fieldAddr rfl Tryz.fld25_2) ?_; refine wl_g ?_; refine wl_val rfl (ex_load1 rfl Tryz.agg22 (cell_nth hB188 rfl)) ?_; refine wl_g ?_; refine wl_val rfl (ex_len_slice rfl Tryz.underlying22 rfl) ?_; refine wl_g ?_; refine wl_val rfl (ex_eql rfl rfl) ?_; refine wl_pt ?_; refine wl_m ?_; refine wl_split (t := 102) rfl (fun hs102 => ?_) (fun hs102 => ?_)
             ·skip
              refine wl_g ?_; refine wl_val rfl (ex_fieldAddr rfl Tryz.fld25_3) ?_; refine wl_g ?_; refine wl_val rfl (ex_load1 rfl Tryz.agg3 (cell_nth hB188 rfl)) ?_; refine wl_g ?_; refine wl_val rfl (ex_eql rfl rfl) ?_; refine wl_pt ?_; refine wl_m ?_; refine wl_split (t := 107) rfl (fun hs107 => ?_) (fun hs107 => ?_)
              ·skip
               refine wl_g ?_; refine wl_val rfl (ex_fieldAddr rfl Tryz.fld25_4) ?_; refine wl_g ?_; refine wl_val rfl (ex_load1 rfl Tryz.agg3 (cell_nth hB188 rfl)) ?_; refine wl_g ?_; refine wl_val rfl (ex_eql rfl rfl) ?_; refine wl_pt ?_; refine wl_m ?_; refine wl_split (t := 112) rfl (fun hs112 => ?_) (fun hs112 => ?_)
               ·skip
                refine wl_g ?_; refine wl_val rfl (ex_fieldAddr rfl Tryz.fld25_5) ?_; refine wl_g ?_; refine wl_val rfl (ex_load1 rfl Tryz.agg4 (cell_nth hB188 rfl)) ?_; refine wl_g ?_; refine wl_val rfl (ex_notb rfl) ?_; refine wl_pt ?_; refine wl_m ?_; refine wl_splitb (t := 117) rfl (fun hs117 => ?_) (fun hs117 => ?_)
                ·skip
                 refine wl_g ?_; refine wl_val rfl (ex_fieldAddr rfl Tryz.fld25_6) ?_; refine wl_g ?_; refine wl_val rfl (ex_load1 rfl Tryz.agg3 (cell_nth hB188 rfl)) ?_; refine wl_g ?_; refine wl_val rfl (ex_eql rfl rfl) ?_; refine wl_pt ?_; refine wl_m ?_; refine wl_split (t := 122) rfl (fun hs122 => ?_) (fun hs122 => ?_)
                 ·skip
                  refine wl_g ?_; refine wl_val rfl (ex_fieldAddr rfl Tryz.fld25_7) ?_; refine wl_g ?_; refine wl_val rfl (ex_load1 rfl Tryz.agg9 (cell_nth hB188 rfl)) ?_; refine wl_g ?_; refine wl_val rfl (ex_eqs rfl rfl) ?_; refine wl_pt ?_; refine wl_a ?_; refine wl_nil (nrm_then ?_); refine cw_ret (body_ret1 rfl rfl ?_); have hob3 : ob2 = ob ∨ ∃ g, ob2 = some g ∧ w.heap.size ≤ g := hob2.imp id (fun ⟨g, h1, h2⟩ => ⟨g, h1, Nat.le_trans hszc h2⟩)
                  have hlz : x.kind = 6 ∨ x.lazy = false := by first | (left; omega) | (right; simpa using hs117)
                  refine ⟨_, rfl, ?_, hE190, fun hb => ?_⟩
                  · simp only [decide_eq_true_eq]
                    constructor
                    · intro hnm
                      exact ⟨(nodeP_iff x).2 (by constructor <;> first | omega | (right; assumption) | (left; omega) | exact hlz | (intro hk; exact hcb.1 (by simpa using hc36)) | (intro hk; exfalso; omega)), by intro _; exact hgb2⟩
                    · intro hh; obtain ⟨hh, hh2⟩ := hh; have hf := (nodeP_iff x).1 hh; trivial
                  · rw [if_pos (by omega)]; exact ⟨a2, c2, ob2, ⟨hB192, hO193, hJ2.ne⟩, hob3⟩
                 ·skip
                  refine wl_n ?_; refine wl_n ?_; refine wl_n ?_; refine wl_pf ?_; refine wl_a ?_; refine wl_nil (nrm_then ?_); refine cw_ret (body_ret1 rfl rfl ?_)
                  exact ⟨false, rfl, by simp only [Bool.false_eq_true, false_iff]; intro hh; obtain ⟨hh, hh2⟩ := hh; have hf := (nodeP_iff x).1 hh; (have f1 := hf.zc; omega), hE190, fun h => by cases h⟩
                ·skip
                 refine wl_n ?_; refine wl_n ?_; refine wl_n ?_; refine wl_pf ?_; refine wl_m ?_; refine wl_n ?_; refine wl_n ?_; refine wl_n ?_; refine wl_pf ?_; refine wl_a ?_; refine wl_nil (nrm_then ?_); refine cw_ret (body_ret1 rfl rfl ?_)
                 exact ⟨false, rfl, by simp only [Bool.false_eq_true, false_iff]; intro hh; obtain ⟨hh, hh2⟩ := hh; have hf := (nodeP_iff x).1 hh; (first | (rcases hf.zl with h | h; omega; rw [h] at hs117; cases hs117; done) | cases hs117), hE190, fun h => by cases h⟩
               ·skip
                refine wl_n ?_; refine wl_n ?_; refine wl_n ?_; refine wl_pf ?_; refine wl_m ?_; refine wl_n ?_; refine wl_n ?_; refine wl_n ?_; refine wl_pf ?_; refine wl_m ?_; refine wl_n ?_; refine wl_n ?_; refine wl_n ?_; refine wl_pf ?_; refine wl_a ?_; refine wl_nil (nrm_then ?_); refine cw_ret (body_ret1 rfl rfl ?_)
                exact ⟨false, rfl, by simp only [Bool.false_eq_true, false_iff]; intro hh; obtain ⟨hh, hh2⟩ := hh; have hf := (nodeP_iff x).1 hh; (have f1 := hf.zm2; omega), hE190, fun h => by cases h⟩
              ·skip
               refine wl_n ?_; refine wl_n ?_; refine wl_n ?_; refine wl_pf ?_; refine wl_m ?_; refine wl_n ?_; refine wl_n ?_; refine wl_n ?_; refine wl_pf ?_; refine wl_m ?_; refine wl_n ?_; refine wl_n ?_; refine wl_n ?_; refine wl_pf ?_; refine wl_m ?_; refine wl_n ?_; refine wl_n ?_; refine wl_n ?_; refine wl_pf ?_; refine wl_a ?_; refine wl_nil (nrm_then ?_); refine cw_ret (body_ret1 rfl rfl ?_)
               exact ⟨false, rfl, by simp only [Bool.false_eq_true, false_iff]; intro hh; obtain ⟨hh, hh2⟩ := hh; have hf := (nodeP_iff x).1 hh; (have f1 := hf.zm1; omega), hE190, fun h => by cases h⟩
             ·skip
              refine wl_n ?_; refine wl_n ?_; refine wl_n ?_; refine wl_pf ?_; refine wl_m ?_; refine wl_n ?_; refine wl_n ?_; refine wl_n ?_; refine wl_pf ?_; refine wl_m ?_; refine wl_n ?_; refine wl_n ?_; refine wl_n ?_; refine wl_pf ?_; refine wl_m ?_; refine wl_n ?_; refine wl_n ?_; refine wl_n ?_; refine wl_pf ?_; refine wl_m ?_; refine wl_n ?_; refine wl_n ?_; refine wl_n ?_; refine wl_pf ?_; refine wl_a ?_; refine wl_nil (nrm_then ?_); refine cw_ret (body_ret1 rfl rfl ?_)
              exact ⟨false, rfl, by simp only [Bool.false_eq_true, false_iff]; intro hh; obtain ⟨hh, hh2⟩ := hh; have hf := (nodeP_iff x).1 hh; (have f1 := hf.zg; omega), hE190, fun h => by cases h⟩
            ·skip
             refine wl_n ?_; refine wl_n ?_; refine wl_n ?_; refine wl_n ?_; refine wl_pf ?_; refine wl_m ?_; refine wl_n ?_; refine wl_n ?_; refine wl_n ?_; refine wl_pf ?_; refine wl_m ?_; refine wl_n ?_; refine wl_n ?_; refine wl_n ?_; refine wl_pf ?_; refine wl_m ?_; refine wl_n ?_; refine wl_n ?_; refine wl_n ?_; refine wl_pf ?_; refine wl_m ?_; refine wl_n ?_; refine wl_n ?_; refine wl_n ?_; refine wl_pf ?_; refine wl_m ?_; refine wl_n ?_; refine wl_n ?_; refine wl_n ?_; refine wl_pf ?_; refine wl_a ?_; refine wl_nil (nrm_then ?_); refine cw_ret (body_ret1 rfl rfl ?_)
             exact ⟨false, rfl, by simp only [Bool.false_eq_true, false_iff]; intro hh; obtain ⟨hh, hh2⟩ := hh; have hf := (nodeP_iff x).1 hh; (have f1 := hf.zr; omega), hE190, fun h => by cases h⟩
           ·skip
            refine wl_n ?_; refine wl_n ?_; refine wl_n ?_; refine wl_pf ?_; refine wl_m ?_; refine wl_n ?_; refine wl_n ?_; refine wl_n ?_; refine wl_n ?_; refine wl_pf ?_; refine wl_m ?_; refine wl_n ?_; refine wl_n ?_; refine wl_n ?_; refine wl_pf ?_; refine wl_m ?_; refine wl_n ?_; refine wl_n ?_; refine wl_n ?_; refine wl_pf ?_; refine wl_m ?_; refine wl_n ?_; refine wl_n ?_; refine wl_n ?_; refine wl_pf ?_; refine wl_m ?_; refine wl_n ?_; refine wl_n ?_; refine wl_n ?_; refine wl_pf ?_; refine wl_m ?_; refine wl_n ?_; refine wl_n ?_; refine wl_n ?_; refine wl_pf ?_; refine wl_a ?_; refine wl_nil (nrm_then ?_); refine cw_ret (body_ret1 rfl rfl ?_)
            exact ⟨false, rfl, by simp only [Bool.false_eq_true, false_iff]; intro hh; obtain ⟨hh, hh2⟩ := hh; have hf := (nodeP_iff x).1 hh; (have f1 := hf.two; have f2 := hf.rep4; have f3 := hf.grp; have f4 := hf.leaf; omega), hE190, fun h => by cases h⟩
         ·skip
          refine cw_seq ?_; refine cw_region ?_; refine wl_a ?_; refine wl_nil (nrm_then ?_); refine cw_ret (ret_block (ret_then (body_ret1 rfl rfl ?_)))
          exact ⟨false, rfl, by simp only [Bool.false_eq_true, false_iff]; intro hh; obtain ⟨hh, hh2⟩ := hh; have hf := (nodeP_iff x).1 hh; (have f1 := hf.kind1; have f2 := hf.kind2; omega), hE46, fun h => by cases h⟩
end Go.Proofs.YtgnpldackjbdjaaGreat
namespace Go.Proofs.YtgnpldackjbdjaaGreat
open Go.W Go.RowKit
set_option linter.unusedVariables false
set_option linter.unusedSimpArgs false
inductive Good : Rx → Prop
  | mk {x : Rx} : NodeP x → (x.kind = 7 → 1 ≤ x.cap ∧ x.cap ≤ 100) → (∀ k, k ∈ x.kids → Good k) → Good x
theorem Good.node {x : Rx} (h : Good x) : NodeP x := by cases h; assumption
theorem Good.kid {x : Rx} (h : Good x) : ∀ k, k ∈ x.kids → Good k := by cases h; assumption
structure In where
  op : Int
  out : Int
  alt : Int
  arg : Int
  rs : List (Int × Int)
mutual
def Rx.esz : Rx → Nat
  | .mk k r rs mn mx lz cp nm ks =>
    if k = 1 then 0 else if k = 4 then eszs ks else if k = 5 then eszs ks + 2 * (ks.length - 1)
    else if k = 6 then (if mx = -1 then mn.toNat * eszs ks + eszs ks + 2 else mn.toNat * eszs ks + (mx - mn).toNat * (eszs ks + 1))
    else if k = 7 then eszs ks + 2 else 1
def eszs : List Rx → Nat
  | [] => 0
  | x :: xs => x.esz + eszs xs
end
theorem Rx.esz_eq (x : Rx) : x.esz = if x.kind = 1 then 0 else if x.kind = 4 then eszs x.kids else if x.kind = 5 then eszs x.kids + 2 * (x.kids.length - 1)
    else if x.kind = 6 then (if x.max = -1 then x.min.toNat * eszs x.kids + eszs x.kids + 2 else x.min.toNat * eszs x.kids + (x.max - x.min).toNat * (eszs x.kids + 1))
    else if x.kind = 7 then eszs x.kids + 2 else 1 := by
  cases x; rw [Rx.esz]; rfl
def In.sp (lazy : Bool) (a b : Nat) : In := if lazy then ⟨3, b, a, 0, []⟩ else ⟨3, a, b, 0, []⟩
def Rep (B : Nat → Nat → Prop) : Nat → Nat → Nat → Prop
  | 0, a, b => a = b
  | r + 1, a, b => ∃ m, B a m ∧ Rep B r m b
def Opt (l : List In) (z : Bool) (B : Nat → Nat → Prop) (e : Nat) : Nat → Nat → Prop
  | 0, a => a = e
  | r + 1, a => ∃ m, l[a]? = some (In.sp z (a + 1) e) ∧ B (a + 1) m ∧ Opt l z B e r m
def leafIn (k : Int) (a : Nat) : In := ⟨if k = 13 then 9 else k - 3, (a : Int) + 1, 0, if k = 13 then 1 else 0, []⟩
mutual
def Blk (l : List In) : Rx → Nat → Nat → Prop
  | .mk k r rs mn mx lz cp nm ks, a, b =>
    (k = 1 → b = a) ∧
    (k = 2 → b = a + 1 ∧ l[a]? = some ⟨2, (a : Int) + 1, 0, 0, [(r, r)]⟩) ∧
    (k = 3 → b = a + 1 ∧ l[a]? = some (if rs = [] then ⟨11, 0, 0, 0, []⟩ else ⟨2, (a : Int) + 1, 0, 0, rs⟩)) ∧
    (k = 4 → Blks l ks a b) ∧
    (k = 5 → BlkA l ks a b) ∧
    (k = 6 → ∃ m, Rep (Blks l ks) mn.toNat a m ∧ (mx = -1 → ∃ m', l[m]? = some (In.sp lz (m + 1) b) ∧ Blks l ks (m + 1) m' ∧ l[m']? = some ⟨10, (m : Int), 0, 0, []⟩ ∧ b = m' + 1) ∧
      (mx ≠ -1 → Opt l lz (Blks l ks) b (mx - mn).toNat m)) ∧
    (k = 7 → ∃ m, l[a]? = some ⟨4, (a : Int) + 1, 0, 2 * cp, []⟩ ∧ Blks l ks (a + 1) m ∧ l[m]? = some ⟨4, (m : Int) + 1, 0, 2 * cp + 1, []⟩ ∧ b = m + 1) ∧
    (8 ≤ k → b = a + 1 ∧ l[a]? = some (leafIn k a))
def Blks (l : List In) : List Rx → Nat → Nat → Prop
  | [], a, b => a = b
  | x :: xs, a, b => ∃ m, Blk l x a m ∧ Blks l xs m b
def BlkA (l : List In) : List Rx → Nat → Nat → Prop
  | [], _, _ => False
  | x :: xs, a, b => (xs = [] → Blk l x a b) ∧ (xs ≠ [] → ∃ m, l[a]? = some (In.sp false (a + 1) (m + 1)) ∧ Blk l x (a + 1) m ∧ l[m]? = some ⟨10, (b : Int), 0, 0, []⟩ ∧ BlkA l xs (m + 1) b)
end
def InR (c : Int) (l : List (Int × Int)) : Prop := ∃ g, g ∈ l ∧ g.1 ≤ c ∧ c ≤ g.2
def wordI (c : Int) : Prop := (48 ≤ c ∧ c ≤ 57) ∨ (65 ≤ c ∧ c ≤ 90) ∨ (97 ≤ c ∧ c ≤ 122) ∨ c = 95
def Bef (rs : List Int) (i : Nat) : Prop := 0 < i ∧ ∃ c, rs[i - 1]? = some c ∧ wordI c
def Aft (rs : List Int) (i : Nat) : Prop := ∃ c, rs[i]? = some c ∧ wordI c
def Plc (rs : List Int) (k : Int) (i : Nat) : Prop :=
  (k = 8 ∧ i = 0) ∨ (k = 9 ∧ i = rs.length) ∨ (k = 10 ∧ (i = 0 ∨ rs[i - 1]? = some 10)) ∨ (k = 11 ∧ (i = rs.length ∨ rs[i]? = some 10)) ∨ (k = 12 ∧ ¬ (Bef rs i ↔ Aft rs i)) ∨ (k = 13 ∧ (Bef rs i ↔ Aft rs i))
def It (R : Nat → Nat → Prop) : Nat → Nat → Nat → Prop
  | 0, i, j => i = j
  | c + 1, i, j => ∃ k, R i k ∧ It R c k j
mutual
def Mt (rs : List Int) : Rx → Nat → Nat → Prop
  | .mk k r g mn mx lz cp nm ks, i, j =>
    (k = 1 ∧ i = j) ∨ (k = 2 ∧ j = i + 1 ∧ rs[i]? = some r) ∨ (k = 3 ∧ j = i + 1 ∧ ∃ c, rs[i]? = some c ∧ InR c g) ∨ (k = 4 ∧ Mts rs ks i j) ∨ (k = 5 ∧ MtA rs ks i j) ∨
    (k = 6 ∧ ∃ c, mn.toNat ≤ c ∧ (mx = -1 ∨ c ≤ mx.toNat) ∧ It (Mts rs ks) c i j) ∨ (k = 7 ∧ Mts rs ks i j) ∨ (8 ≤ k ∧ i = j ∧ Plc rs k i)
def Mts (rs : List Int) : List Rx → Nat → Nat → Prop
  | [], i, j => i = j
  | x :: xs, i, j => ∃ k, Mt rs x i k ∧ Mts rs xs k j
def MtA (rs : List Int) : List Rx → Nat → Nat → Prop
  | [], _, _ => False
  | x :: xs, i, j => Mt rs x i j ∨ MtA rs xs i j
end
theorem It.add {R : Nat → Nat → Prop} {a b : Nat} : ∀ {i j}, It R (a + b) i j ↔ ∃ k, It R a i k ∧ It R b k j := by
  induction a with
  | zero => intro i j; simp only [Nat.zero_add, It]; constructor; exact fun h => ⟨i, rfl, h⟩; rintro ⟨k, rfl, h⟩; exact h
  | succ a ih =>
    intro i j
    rw [show a + 1 + b = (a + b) + 1 from by omega]
    simp only [It]
    constructor
    · rintro ⟨k, h1, h2⟩
      obtain ⟨m, h3, h4⟩ := ih.1 h2
      exact ⟨m, ⟨k, h1, h3⟩, h4⟩
    · rintro ⟨m, ⟨k, h1, h3⟩, h4⟩
      exact ⟨k, h1, ih.2 ⟨m, h3, h4⟩⟩
def GoesOn (rs : List Int) (c : In) (i : Nat) : Prop := c.op = 3 ∨ c.op = 4 ∨ c.op = 10 ∨ (5 ≤ c.op ∧ c.op ≤ 8 ∧ Plc rs (c.op + 3) i) ∨ (c.op = 9 ∧ Plc rs (if c.arg = 0 then 12 else 13) i)
def Eps (l : List In) (rs : List Int) (i p q : Nat) : Prop := ∃ c, l[p]? = some c ∧ GoesOn rs c i ∧ ((q : Int) = c.out ∨ (c.op = 3 ∧ (q : Int) = c.alt))
def Eat (l : List In) (rs : List Int) (i p q : Nat) : Prop := ∃ c, l[p]? = some c ∧ c.op = 2 ∧ (q : Int) = c.out ∧ ∃ r, rs[i]? = some r ∧ InR r c.rs
def Step (l : List In) (rs : List Int) (p i q j : Nat) : Prop := (j = i ∧ Eps l rs i p q) ∨ (j = i + 1 ∧ Eat l rs i p q)
inductive Way (l : List In) (rs : List Int) (a b q j : Nat) : Nat → Nat → Prop
  | nil : Way l rs a b q j q j
  | cons {p i p' i' : Nat} : a ≤ p → p < b → Step l rs p i p' i' → Way l rs a b q j p' i' → Way l rs a b q j p i
variable {l : List In} {rs : List Int}
theorem Way.mono {a b c d q j p i : Nat} (h : Way l rs c d q j p i) (h1 : a ≤ c) (h2 : d ≤ b) : Way l rs a b q j p i := by
  induction h with
  | nil => exact .nil
  | cons ha hb hs _ ih => exact .cons (by omega) (by omega) hs ih
theorem Way.trans {a b q j m k p i : Nat} (h : Way l rs a b m k p i) (h1 : Way l rs a b q j m k) : Way l rs a b q j p i := by
  induction h with
  | nil => exact h1
  | cons ha hb hs _ ih => exact .cons ha hb hs ih
theorem Way.done {a b q j i : Nat} (h : Way l rs a b q j b i) : q = b ∧ i = j := by
  cases h with
  | nil => exact ⟨rfl, rfl⟩
  | cons ha hb => omega
def Closed (l : List In) (rs : List Int) (a b : Nat) : Prop := ∀ p i q j, a ≤ p → p < b → Step l rs p i q j → a ≤ q ∧ q ≤ b
theorem Way.cut {a b c d j p i : Nat} (h : Way l rs a b b j p i) (hc : Closed l rs c d) (h1 : a ≤ c) (h2 : d ≤ b) (h3 : c ≤ p) (h4 : p ≤ d) : ∃ k, Way l rs c d d k p i ∧ Way l rs a b b j d k := by
  induction h with
  | nil => obtain rfl : b = d := by omega
           exact ⟨_, .nil, .nil⟩
  | cons ha hb hs hw ih =>
    rename_i p i p' i'
    by_cases e : p = d
    · subst e; exact ⟨i, .nil, .cons ha hb hs hw⟩
    · obtain ⟨h5, h6⟩ := hc _ _ _ _ h3 (by omega) hs
      obtain ⟨k, h7, h8⟩ := ih h5 h6
      exact ⟨k, .cons h3 (by omega) hs h7, h8⟩
structure Leads (l : List In) (rs : List Int) (a b : Nat) (R : Nat → Nat → Prop) : Prop where
  le : a ≤ b
  cl : Closed l rs a b
  way : ∀ i j, Way l rs a b b j a i ↔ R i j
theorem Leads.congr {a b : Nat} {R S : Nat → Nat → Prop} (h : Leads l rs a b R) (e : ∀ i j, R i j ↔ S i j) : Leads l rs a b S := ⟨h.le, h.cl, fun i j => (h.way i j).trans (e i j)⟩
theorem leads_nil (a : Nat) : Leads l rs a a (fun i j => i = j) := ⟨Nat.le_refl _, fun p i q j h1 h2 => by omega, fun i j => ⟨fun h => h.done.2, fun h => h ▸ .nil⟩⟩
theorem step_get {a i q j : Nat} {c : In} (h : l[a]? = some c) (hs : Step l rs a i q j) : (j = i ∧ GoesOn rs c i ∧ ((q : Int) = c.out ∨ (c.op = 3 ∧ (q : Int) = c.alt))) ∨ (j = i + 1 ∧ c.op = 2 ∧ (q : Int) = c.out ∧ ∃ r, rs[i]? = some r ∧ InR r c.rs) := by
  rcases hs with ⟨rfl, c', hc, h1, h2⟩ | ⟨rfl, c', hc, h1, h2⟩
  · rw [h] at hc; cases hc; exact .inl ⟨rfl, h1, h2⟩
  · rw [h] at hc; cases hc; exact .inr ⟨rfl, h1, h2⟩
theorem leads_one {a : Nat} {c : In} (h : l[a]? = some c) (h1 : c.op = 3 → False) (h2 : c.out = (a : Int) + 1 ∨ c.op = 11) :
    Leads l rs a (a + 1) (fun i j => (j = i ∧ GoesOn rs c i) ∨ (j = i + 1 ∧ c.op = 2 ∧ ∃ r, rs[i]? = some r ∧ InR r c.rs)) := by
  have h11 : c.op = 11 → ∀ i, ¬ GoesOn rs c i := fun h i hg => by unfold GoesOn at hg; omega
  have hout : ∀ {q i}, GoesOn rs c i ∨ c.op = 2 → (q : Int) = c.out → q = (a : Int) + 1 := fun hg e => by
    rcases h2 with h2 | h2
    · omega
    · rcases hg with hg | hg
      · exact (h11 h2 _ hg).elim
      · omega
  refine ⟨by omega, fun p i q j hp hp' hs => ?_, fun i j => ⟨fun hw => ?_, fun hr => ?_⟩⟩
  · obtain rfl : p = a := by omega
    rcases step_get h hs with ⟨rfl, hg, h3 | ⟨h3, -⟩⟩ | ⟨rfl, h3, h4, -⟩
    · have := hout (.inl hg) h3; omega
    · exact (h1 h3).elim
    · have := hout (i := i) (.inr h3) h4; omega
  · cases hw with
    | cons ha hb hs hw =>
      rcases step_get h hs with ⟨rfl, hg, h3 | ⟨h3, -⟩⟩ | ⟨rfl, h3, h4, h5⟩
      · rename_i p' _
        obtain rfl : p' = a + 1 := by have := hout (.inl hg) h3; omega
        obtain ⟨-, rfl⟩ := hw.done
        exact .inl ⟨rfl, hg⟩
      · exact (h1 h3).elim
      · rename_i p'
        obtain rfl : p' = a + 1 := by have := hout (i := i) (.inr h3) h4; omega
        obtain ⟨-, rfl⟩ := hw.done
        exact .inr ⟨rfl, h3, h5⟩
  · rcases hr with ⟨rfl, hg⟩ | ⟨rfl, h3, h5⟩
    · refine .cons (Nat.le_refl _) (by omega) (.inl ⟨rfl, c, h, hg, .inl ?_⟩) .nil
      rcases h2 with h2 | h2
      · omega
      · exact (h11 h2 _ hg).elim
    · refine .cons (Nat.le_refl _) (by omega) (.inr ⟨rfl, c, h, h3, ?_, h5⟩) .nil
      omega
theorem leads_seq {a m b : Nat} {R S : Nat → Nat → Prop} (h1 : Leads l rs a m R) (h2 : Leads l rs m b S) : Leads l rs a b (fun i j => ∃ k, R i k ∧ S k j) := by
  have e1 := h1.le
  have e2 := h2.le
  refine ⟨by omega, fun p i q j hp hp' hs => ?_, fun i j => ⟨fun hw => ?_, ?_⟩⟩
  · by_cases e : p < m
    · have := h1.cl p i q j hp e hs; omega
    · have := h2.cl p i q j (by omega) hp' hs; omega
  · obtain ⟨k, w1, w2⟩ := hw.cut h1.cl (by omega) (by omega) (by omega) (by omega)
    obtain ⟨k', w3, w4⟩ := w2.cut h2.cl (by omega) (by omega) (by omega) (by omega)
    obtain ⟨-, rfl⟩ := w4.done
    exact ⟨k, (h1.way _ _).1 w1, (h2.way _ _).1 w3⟩
  · rintro ⟨k, r1, r2⟩
    exact (((h1.way _ _).2 r1).mono (Nat.le_refl _) (by omega)).trans (((h2.way _ _).2 r2).mono (by omega) (Nat.le_refl _))
theorem leads_rep {B : Nat → Nat → Prop} {R : Nat → Nat → Prop} (hB : ∀ a b, B a b → Leads l rs a b R) : ∀ {n a b}, Rep B n a b → Leads l rs a b (It R n)
  | 0, a, b, h => by cases h; exact leads_nil a
  | n + 1, a, b, ⟨m, h1, h2⟩ => leads_seq (hB _ _ h1) (leads_rep hB h2)
theorem sp_get {z : Bool} {a x y i q j : Nat} (h : l[a]? = some (In.sp z x y)) (hs : Step l rs a i q j) : j = i ∧ (q = x ∨ q = y) := by
  rcases step_get h hs with ⟨rfl, hg, h3⟩ | ⟨rfl, h3, -⟩
  · refine ⟨rfl, ?_⟩
    unfold In.sp at h3
    split at h3 <;> simp only at h3 <;> omega
  · unfold In.sp at h3
    split at h3 <;> simp only at h3 <;> omega
theorem sp_in {z : Bool} {a x y i : Nat} (h : l[a]? = some (In.sp z x y)) : Step l rs a i x i := by
  refine .inl ⟨rfl, _, h, ?_, ?_⟩
  · unfold GoesOn In.sp; split <;> simp
  · unfold In.sp; split <;> simp
theorem sp_out {z : Bool} {a x y i : Nat} (h : l[a]? = some (In.sp z x y)) : Step l rs a i y i := by
  refine .inl ⟨rfl, _, h, ?_, ?_⟩
  · unfold GoesOn In.sp; split <;> simp
  · unfold In.sp; split <;> simp
theorem jp_get {a x i q j : Nat} (h : l[a]? = some ⟨10, (x : Int), 0, 0, []⟩) (hs : Step l rs a i q j) : j = i ∧ q = x := by
  rcases step_get h hs with ⟨rfl, hg, h3 | ⟨h3, -⟩⟩ | ⟨rfl, h3, -⟩
  · exact ⟨rfl, by simp only at h3; omega⟩
  · simp only at h3; omega
  · simp only at h3; omega
theorem jp_in {a x i : Nat} (h : l[a]? = some ⟨10, (x : Int), 0, 0, []⟩) : Step l rs a i x i := .inl ⟨rfl, _, h, .inr (.inr (.inl rfl)), .inl rfl⟩
theorem leads_opt {z : Bool} {B : Nat → Nat → Prop} {R : Nat → Nat → Prop} {e : Nat} (hB : ∀ a b, B a b → Leads l rs a b R) : ∀ {r a}, Opt l z B e r a → Leads l rs a e (fun i j => ∃ c, c ≤ r ∧ It R c i j)
  | 0, a, h => by
    cases h
    refine (leads_nil _).congr fun i j => ⟨fun h => ⟨0, Nat.le_refl _, h⟩, ?_⟩
    rintro ⟨c, hc, h⟩
    obtain rfl : c = 0 := by omega
    exact h
  | r + 1, a, ⟨m, h1, h2, h3⟩ => by
    have f1 := hB _ _ h2
    have f2 := leads_opt hB h3
    have e1 := f1.le
    have e2 := f2.le
    refine ⟨by omega, fun p i q j hp hp' hs => ?_, fun i j => ⟨fun hw => ?_, ?_⟩⟩
    · by_cases e : p = a
      · subst e; have := sp_get h1 hs; omega
      · by_cases e : p < m
        · have := f1.cl p i q j (by omega) e hs; omega
        · have := f2.cl p i q j (by omega) hp' hs; omega
    · cases hw with
      | nil => omega
      | cons ha hb hs hw =>
        obtain ⟨rfl, h4⟩ := sp_get h1 hs
        rcases h4 with rfl | rfl
        · obtain ⟨k, w1, w2⟩ := hw.cut f1.cl (by omega) (by omega) (by omega) (by omega)
          obtain ⟨k', w3, w4⟩ := w2.cut f2.cl (by omega) (by omega) (by omega) (by omega)
          obtain ⟨-, rfl⟩ := w4.done
          obtain ⟨c, hc, hi⟩ := (f2.way _ _).1 w3
          exact ⟨c + 1, by omega, k, (f1.way _ _).1 w1, hi⟩
        · obtain ⟨-, rfl⟩ := hw.done
          exact ⟨0, by omega, rfl⟩
    · rintro ⟨c, hc, hi⟩
      cases c with
      | zero => cases hi; exact .cons (Nat.le_refl _) (by omega) (sp_out h1) .nil
      | succ c =>
        obtain ⟨k, r1, r2⟩ := hi
        exact .cons (Nat.le_refl _) (by omega) (sp_in h1) ((((f1.way _ _).2 r1).mono (by omega) (by omega)).trans (((f2.way _ _).2 ⟨c, by omega, r2⟩).mono (by omega) (Nat.le_refl _)))
theorem leads_loop {z : Bool} {R : Nat → Nat → Prop} {a m : Nat} (h1 : l[a]? = some (In.sp z (a + 1) (m + 1))) (f1 : Leads l rs (a + 1) m R) (h2 : l[m]? = some ⟨10, (a : Int), 0, 0, []⟩) : Leads l rs a (m + 1) (fun i j => ∃ c, It R c i j) := by
  have e1 := f1.le
  have key : ∀ {j p i}, Way l rs a (m + 1) (m + 1) j p i → (p = a → ∃ c, It R c i j) ∧ (a + 1 ≤ p → p ≤ m → ∃ k c, Way l rs (a + 1) m m k p i ∧ It R c k j) := by
    intro j p i hw
    induction hw with
    | nil => exact ⟨fun h => by omega, fun _ h => by omega⟩
    | cons ha hb hs hw ih =>
      rename_i p i p' i'
      refine ⟨fun e => ?_, fun h3 h4 => ?_⟩
      · subst e
        obtain ⟨rfl, h4⟩ := sp_get h1 hs
        rcases h4 with rfl | rfl
        · obtain ⟨k, c, w1, w2⟩ := ih.2 (by omega) (by omega)
          exact ⟨c + 1, k, (f1.way _ _).1 w1, w2⟩
        · obtain ⟨-, rfl⟩ := hw.done
          exact ⟨0, rfl⟩
      · by_cases e : p = m
        · subst e
          obtain ⟨rfl, rfl⟩ := jp_get h2 hs
          obtain ⟨c, hc⟩ := ih.1 rfl
          exact ⟨_, c, .nil, hc⟩
        · have h5 := f1.cl p i p' i' h3 (by omega) hs
          obtain ⟨k, c, w1, w2⟩ := ih.2 h5.1 h5.2
          exact ⟨k, c, .cons h3 (by omega) hs w1, w2⟩
  refine ⟨by omega, fun p i q j hp hp' hs => ?_, fun i j => ⟨fun hw => (key hw).1 rfl, ?_⟩⟩
  · by_cases e : p = a
    · subst e; have := sp_get h1 hs; omega
    · by_cases e : p = m
      · subst e; have := jp_get h2 hs; omega
      · have := f1.cl p i q j (by omega) (by omega) hs; omega
  · rintro ⟨c, hc⟩
    induction c generalizing i with
    | zero => cases hc; exact .cons (Nat.le_refl _) (by omega) (sp_out h1) .nil
    | succ c ih =>
      obtain ⟨k, r1, r2⟩ := hc
      exact .cons (Nat.le_refl _) (by omega) (sp_in h1) ((((f1.way _ _).2 r1).mono (by omega) (by omega)).trans (.cons (by omega) (by omega) (jp_in h2) (ih k r2)))
theorem leads_alt {R S : Nat → Nat → Prop} {a m b : Nat} (h1 : l[a]? = some (In.sp false (a + 1) (m + 1))) (f1 : Leads l rs (a + 1) m R) (h2 : l[m]? = some ⟨10, (b : Int), 0, 0, []⟩) (f2 : Leads l rs (m + 1) b S) :
    Leads l rs a b (fun i j => R i j ∨ S i j) := by
  have e1 := f1.le
  have e2 := f2.le
  refine ⟨by omega, fun p i q j hp hp' hs => ?_, fun i j => ⟨fun hw => ?_, ?_⟩⟩
  · by_cases e : p = a
    · subst e; have := sp_get h1 hs; omega
    · by_cases e : p = m
      · subst e; have := jp_get h2 hs; omega
      · by_cases e : p < m
        · have := f1.cl p i q j (by omega) (by omega) hs; omega
        · have := f2.cl p i q j (by omega) (by omega) hs; omega
  · cases hw with
    | nil => omega
    | cons ha hb hs hw =>
      obtain ⟨rfl, h4⟩ := sp_get h1 hs
      rcases h4 with rfl | rfl
      · obtain ⟨k, w1, w2⟩ := hw.cut f1.cl (by omega) (by omega) (by omega) (by omega)
        cases w2 with
        | nil => omega
        | cons ha hb hs hw =>
          obtain ⟨rfl, rfl⟩ := jp_get h2 hs
          obtain ⟨-, rfl⟩ := hw.done
          exact .inl ((f1.way _ _).1 w1)
      · obtain ⟨k, w1, w2⟩ := hw.cut f2.cl (by omega) (by omega) (by omega) (by omega)
        obtain ⟨-, rfl⟩ := w2.done
        exact .inr ((f2.way _ _).1 w1)
  · rintro (h | h)
    · exact .cons (Nat.le_refl _) (by omega) (sp_in h1) ((((f1.way _ _).2 h).mono (by omega) (by omega)).trans (.cons (by omega) (by omega) (jp_in h2) .nil))
    · exact .cons (Nat.le_refl _) (by omega) (sp_out h1) (((f2.way _ _).2 h).mono (by omega) (by omega))
theorem blks_leads : ∀ {ks : List Rx}, (∀ k, k ∈ ks → ∀ a b, Blk l k a b → Leads l rs a b (Mt rs k)) → ∀ {a b}, Blks l ks a b → Leads l rs a b (Mts rs ks)
  | [], _, a, b, h => by
    rw [Blks] at h; subst h
    exact (leads_nil a).congr fun i j => by rw [Mts]
  | x :: xs, hk, a, b, h => by
    rw [Blks] at h
    obtain ⟨m, h1, h2⟩ := h
    exact (leads_seq (hk x (by simp) _ _ h1) (blks_leads (fun k hk' => hk k (by simp [hk'])) h2)).congr fun i j => by rw [Mts]
theorem blka_leads : ∀ {ks : List Rx}, (∀ k, k ∈ ks → ∀ a b, Blk l k a b → Leads l rs a b (Mt rs k)) → ∀ {a b}, BlkA l ks a b → Leads l rs a b (MtA rs ks)
  | [], _, a, b, h => by rw [BlkA] at h; exact h.elim
  | x :: xs, hk, a, b, h => by
    rw [BlkA] at h
    obtain ⟨h1, h2⟩ := h
    by_cases e : xs = []
    · subst e
      exact (hk x (by simp) _ _ (h1 rfl)).congr fun i j => by rw [MtA, MtA]; simp
    · obtain ⟨m, h3, h4, h5, h6⟩ := h2 e
      exact (leads_alt h3 (hk x (by simp) _ _ h4) h5 (blka_leads (fun k hk' => hk k (by simp [hk'])) h6)).congr fun i j => by rw [MtA]
theorem num1 {mn mx : Int} (h1 : 0 ≤ mn) (h2 : mx = -1 ∨ mn ≤ mx ∧ mx ≤ 1000) (e : ¬ mx = -1) : mn.toNat + (mx - mn).toNat = mx.toNat := by omega
theorem num2 {a b c d : Nat} (h : a + b = d) (hc : c ≤ b) : a + c ≤ d := by omega
theorem num3 {a b c d : Nat} (h : a + b = d) (h7 : a ≤ c) (h9 : c ≤ d) : c - a ≤ b := by omega
theorem num4 {k : Int} {a : Nat} (h : ¬ k = 6) : (leafIn k a).op = 3 → False := by unfold leafIn; simp only; split <;> omega
theorem num5 {k : Int} {P Q : Prop} (k2 : k ≤ 13) (e : ¬ k = 13) (e9 : ¬ k = 12) (k1 : 1 ≤ k) (e1 : ¬ k = 1) (e2 : ¬ k = 2) (e3 : ¬ k = 3) (e4 : ¬ k = 4) (e5 : ¬ k = 5) (e6 : ¬ k = 6) (e7 : ¬ k = 7) :
    (k - 3 = 3 ∨ k - 3 = 4 ∨ k - 3 = 10 ∨ (5 ≤ k - 3 ∧ k - 3 ≤ 8 ∧ P) ∨ (k - 3 = 9 ∧ Q)) ↔ P := by
  constructor
  · rintro (h | h | h | ⟨-, -, h⟩ | ⟨h, -⟩)
    · omega
    · omega
    · omega
    · exact h
    · omega
  · exact fun h => .inr (.inr (.inr (.inl ⟨by omega, by omega, h⟩)))
theorem num6 (k : Int) : k - 3 + 3 = k := by omega
theorem num7 {k : Int} (k1 : 1 ≤ k) (e1 : ¬ k = 1) (e2 : ¬ k = 2) (e3 : ¬ k = 3) (e4 : ¬ k = 4) (e5 : ¬ k = 5) (e6 : ¬ k = 6) (e7 : ¬ k = 7) : 8 ≤ k := by omega
theorem num8 {k : Int} (k1 : 1 ≤ k) (e1 : ¬ k = 1) (e2 : ¬ k = 2) (e3 : ¬ k = 3) (e4 : ¬ k = 4) (e5 : ¬ k = 5) (e6 : ¬ k = 6) (e7 : ¬ k = 7) : k - 3 = 2 → False := by omega
theorem blk_leads {x : Rx} (hg : Good x) : ∀ a b, Blk l x a b → Leads l rs a b (Mt rs x) := by
  induction hg with
  | @mk x hn hc _ ih =>
    intro a b hb
    have k1 := hn.kind1
    have k2 := hn.kind2
    have kr := hn.rep
    obtain ⟨k, r, g, mn, mx, lz, cp, nm, ks⟩ := x
    simp only [Rx.kind, Rx.kids, Rx.min, Rx.max] at *
    rw [Blk] at hb
    obtain ⟨b1, b2, b3, b4, b5, b6, b7, b8⟩ := hb
    by_cases e1 : k = 1
    · rw [b1 e1]
      exact (leads_nil a).congr fun i j => by rw [Mt]; subst e1; simp
    by_cases e2 : k = 2
    · obtain ⟨rfl, h⟩ := b2 e2
      refine (leads_one h (by simp) (.inl rfl)).congr fun i j => ?_
      rw [Mt]; subst e2
      simp [GoesOn, InR]
      intro _
      constructor
      · rintro ⟨r', h1, h2, h3⟩; obtain rfl : r = r' := by omega
        exact h1
      · exact fun h => ⟨r, h, Int.le_refl _, Int.le_refl _⟩
    by_cases e3 : k = 3
    · obtain ⟨rfl, h⟩ := b3 e3
      subst e3
      split at h
      · rename_i e; subst e
        refine (leads_one h (by simp) (.inr rfl)).congr fun i j => ?_
        rw [Mt]; simp [GoesOn, InR]
      · refine (leads_one h (by simp) (.inl rfl)).congr fun i j => ?_
        rw [Mt]; simp [GoesOn]
    by_cases e4 : k = 4
    · exact (blks_leads ih (b4 e4)).congr fun i j => by rw [Mt]; subst e4; simp
    by_cases e5 : k = 5
    · exact (blka_leads ih (b5 e5)).congr fun i j => by rw [Mt]; subst e5; simp
    by_cases e6 : k = 6
    · obtain ⟨m, h1, h2, h3⟩ := b6 e6
      obtain ⟨q1, q2, q3, q4⟩ := kr e6
      have f1 := leads_rep (fun a b h => blks_leads ih h) h1
      by_cases e : mx = -1
      · obtain ⟨m', h4, h5, h6, rfl⟩ := h2 e
        refine (leads_seq f1 (leads_loop h4 (blks_leads ih h5) h6)).congr fun i j => ?_
        rw [Mt]; subst e6
        simp only [Int.reduceEq, false_and, false_or, true_and, Int.reduceLE, or_false]
        constructor
        · rintro ⟨k, r1, c, r2⟩
          exact ⟨mn.toNat + c, by omega, .inl e, It.add.2 ⟨k, r1, r2⟩⟩
        · rintro ⟨c, h7, -, h8⟩
          obtain ⟨k, r1, r2⟩ := It.add.1 (show It _ (mn.toNat + (c - mn.toNat)) i j by rw [show mn.toNat + (c - mn.toNat) = c from by omega]; exact h8)
          exact ⟨k, r1, _, r2⟩
      · refine (leads_seq f1 (leads_opt (fun a b h => blks_leads ih h) (h3 e))).congr fun i j => ?_
        rw [Mt]; subst e6
        have q5 : mn.toNat + (mx - mn).toNat = mx.toNat := num1 q1 q3 e
        simp only [Int.reduceEq, false_and, false_or, true_and, Int.reduceLE, or_false]
        constructor
        · rintro ⟨k, r1, c, hc, r2⟩
          exact ⟨mn.toNat + c, by omega, .inr (num2 q5 hc), It.add.2 ⟨k, r1, r2⟩⟩
        · rintro ⟨c, h7, h9, h8⟩
          replace h9 : c ≤ mx.toNat := h9.resolve_left e
          obtain ⟨k, r1, r2⟩ := It.add.1 (show It _ (mn.toNat + (c - mn.toNat)) i j by rw [show mn.toNat + (c - mn.toNat) = c from by omega]; exact h8)
          exact ⟨k, r1, _, num3 q5 h7 h9, r2⟩
    by_cases e7 : k = 7
    · obtain ⟨m, h1, h2, h3, rfl⟩ := b7 e7
      refine (leads_seq (leads_one h1 (by simp) (.inl rfl)) (leads_seq (blks_leads ih h2) (leads_one h3 (by simp) (.inl rfl)))).congr fun i j => ?_
      rw [Mt]; subst e7
      simp [GoesOn]
    · obtain ⟨rfl, h⟩ := b8 (by omega)
      refine (leads_one h (num4 e6) (.inl rfl)).congr fun i j => ?_
      rw [Mt]
      simp only [e1, e2, e3, e4, e5, e6, e7, false_and, false_or]
      unfold leafIn GoesOn
      by_cases e : k = 13
      · subst e; simp; intro _; exact eq_comm
      · simp only [e, if_false]
        by_cases e9 : k = 12
        · subst e9; simp; intro _; exact eq_comm
        · rw [num6 k]
          try simp only [e, e9, if_false, false_and, or_false]
          constructor
          · rintro (⟨rfl, h⟩ | ⟨-, h, -⟩)
            · exact ⟨num7 k1 e1 e2 e3 e4 e5 e6 e7, rfl, (num5 k2 e e9 k1 e1 e2 e3 e4 e5 e6 e7).1 h⟩
            · exact (num8 k1 e1 e2 e3 e4 e5 e6 e7 h).elim
          · rintro ⟨h1, rfl, h2⟩
            exact .inl ⟨rfl, (num5 k2 e e9 k1 e1 e2 e3 e4 e5 e6 e7).2 h2⟩
end Go.Proofs.YtgnpldackjbdjaaGreat
namespace Go.Proofs.YtgnpldackjbdjaaGreat
open Go.W Go.RowKit
set_option linter.unusedVariables false
set_option linter.unusedSimpArgs false
mutual
theorem fine_good : ∀ (x : Rx) (b : Int) (st st' : St), x.fine b st = some st' → Good x
  | .mk k r rs mn mx lz cp nm ks, b, st, st', h => by
    by_cases hc : st.1 + 1 ≤ 8194 ∧ (if (Rx.mk k r rs mn mx lz cp nm ks).kind = 7 then b + 1 else b) ≤ 250 ∧ NodeP (.mk k r rs mn mx lz cp nm ks) ∧ ((Rx.mk k r rs mn mx lz cp nm ks).kind = 7 → GroupOk (Rx.mk k r rs mn mx lz cp nm ks).cap (Rx.mk k r rs mn mx lz cp nm ks).name st.2)
    · rw [fine_yes hc] at h
      refine ⟨hc.2.2.1, fun h7 => ?_, fineKids_good ks _ _ _ _ h⟩
      obtain ⟨h1, h2, -⟩ := hc.2.2.2 h7
      omega
    · rw [fine_no hc] at h; cases h
theorem fineKids_good : ∀ (l : List Rx) (k b : Int) (st st' : St), fineKids l k b st = some st' → ∀ x, x ∈ l → Good x
  | [], _, _, _, _, _, x, hx => by cases hx
  | y :: ys, k, b, st, st', h, x, hx => by
    rw [fineKids] at h
    cases hy : y.fine (b + if Brk y.kind k then 1 else 0) st with
    | none => rw [hy] at h; cases h
    | some s1 =>
      rw [hy] at h
      rcases List.mem_cons.1 hx with e | hx
      · rw [e]; exact fine_good y _ _ _ hy
      · exact fineKids_good ys _ _ _ _ h x hx
end
theorem Rx.Ok.good {x : Rx} (h : x.Ok) : Good x := by obtain ⟨st, h⟩ := h; exact fine_good _ _ _ _ h
theorem eszs_take {l : List Rx} {k : Nat} (h : k < l.length) : eszs (l.take (k + 1)) = eszs (l.take k) + l[k].esz := by
  induction l generalizing k with
  | nil => simp at h
  | cons x xs ih =>
    cases k with
    | zero => simp [eszs]
    | succ k =>
      have := ih (k := k) (by simpa using h)
      simp only [List.take_succ_cons, eszs, List.getElem_cons_succ]
      omega
theorem eszs_one {l : List Rx} (h : l.length = 1) : eszs l = (l[0]'(by omega)).esz := by
  match l, h with
  | [x], _ => simp [eszs]
theorem esz1 {t : Rx} (h : t.kind = 1) : (t.esz : Int) = 0 := by rw [Rx.esz_eq, if_pos h]; rfl
theorem esz4 {t : Rx} (h : t.kind = 4) : (t.esz : Int) = eszs t.kids := by rw [Rx.esz_eq, if_neg (by omega), if_pos h]
theorem esz5 {t : Rx} (h : t.kind = 5) (hg : 1 ≤ t.kids.length) : (t.esz : Int) = eszs t.kids + 2 * ((t.kids.length : Int) - 1) := by rw [Rx.esz_eq, if_neg (by omega), if_neg (by omega), if_pos h]; omega
theorem esz7 {t : Rx} (h : t.kind = 7) : (t.esz : Int) = eszs t.kids + 2 := by rw [Rx.esz_eq, if_neg (by omega), if_neg (by omega), if_neg (by omega), if_neg (by omega), if_pos h]; rfl
theorem esz6a {t : Rx} (h : t.kind = 6) (h0 : 0 ≤ t.min) (hm : t.max = -1) : (t.esz : Int) = t.min * eszs t.kids + eszs t.kids + 2 := by
  rw [Rx.esz_eq, if_neg (by omega), if_neg (by omega), if_neg (by omega), if_pos h, if_pos hm, Int.natCast_add, Int.natCast_add, Int.natCast_mul, Int.toNat_of_nonneg h0]; rfl
theorem esz6b {t : Rx} (h : t.kind = 6) (h0 : 0 ≤ t.min) (hm : t.min ≤ t.max) : (t.esz : Int) = t.min * eszs t.kids + (t.max - t.min) * (eszs t.kids + 1) := by
  rw [Rx.esz_eq, if_neg (by omega), if_neg (by omega), if_neg (by omega), if_pos h, if_neg (by omega), Int.natCast_add, Int.natCast_mul, Int.natCast_mul, Int.toNat_of_nonneg h0, Int.toNat_of_nonneg (by omega), Int.natCast_add]; rfl
theorem esz0 {t : Rx} (h : t.kind ≠ 1 ∧ t.kind ≠ 4 ∧ t.kind ≠ 5 ∧ t.kind ≠ 6 ∧ t.kind ≠ 7) : (t.esz : Int) = 1 := by
  obtain ⟨h1, h2, h3, h4, h5⟩ := h
  rw [Rx.esz_eq, if_neg h1, if_neg h2, if_neg h3, if_neg h4, if_neg h5]; rfl
theorem mul_atl {m k : Int} (hm : 0 ≤ m) (hk : 0 ≤ k) : m * k = 0 ∨ k ≤ m * k := by
  by_cases e : m = 0
  · left; rw [e, Int.zero_mul]
  · right
    have : (m - 1) * k ≥ 0 := Int.mul_nonneg (by omega) hk
    rw [Int.sub_mul, Int.one_mul] at this
    omega
theorem cap_rep1 {m k : Int} (hm : 0 ≤ m) (hk : 0 ≤ k) : min (m * min k 10001 + min k 10001 + 2) 10001 = min (m * k + k + 2) 10001 := by
  by_cases e : k ≤ 10001
  · rw [Int.min_eq_left e]
  · rw [Int.min_eq_right (show (10001 : Int) ≤ k by omega)]
    have h1 := Int.mul_nonneg hm hk
    have h2 := Int.mul_nonneg hm (show (0 : Int) ≤ 10001 by omega)
    omega
theorem cap_rep2 {m d k : Int} (hm : 0 ≤ m) (hd : 0 ≤ d) (hk : 0 ≤ k) : min (m * min k 10001 + d * (min k 10001 + 1)) 10001 = min (m * k + d * (k + 1)) 10001 := by
  by_cases e : k ≤ 10001
  · rw [Int.min_eq_left e]
  · rw [Int.min_eq_right (show (10001 : Int) ≤ k by omega)]
    have h1 := Int.mul_nonneg hm hk
    have h3 := Int.mul_nonneg hd (show (0 : Int) ≤ k + 1 by omega)
    by_cases e1 : m = 0
    · subst e1
      by_cases e2 : d = 0
      · subst e2; simp
      · have h2 := mul_atl hd (show (0 : Int) ≤ k + 1 by omega)
        have h4 : d * (k + 1) ≠ 0 := fun h => by rcases Int.mul_eq_zero.1 h with h | h <;> omega
        omega
    · have h2 := mul_atl hm (show (0 : Int) ≤ k by omega)
      have h4 : m * k ≠ 0 := fun h => by rcases Int.mul_eq_zero.1 h with h | h <;> omega
      omega
theorem mul_bd {m k a b : Int} (hm : 0 ≤ m) (hm2 : m ≤ a) (hk : 0 ≤ k) (hk2 : k ≤ b) : 0 ≤ m * k ∧ m * k ≤ a * b :=
  ⟨Int.mul_nonneg hm hk, Int.mul_le_mul hm2 hk2 hk (by omega)⟩
end Go.Proofs.YtgnpldackjbdjaaGreat
namespace Go.Proofs.YtgnpldackjbdjaaGreat
open Go.W Go.RowKit
set_option linter.unusedVariables false
set_option linter.unusedSimpArgs false
abbrev Iv := In × Value
def Iv.cells (e : Iv) : List Value := [iv e.1.op, iv e.1.out, iv e.1.alt, iv e.1.arg, e.2]
def flat (es : List Iv) : List Value := es.flatMap Iv.cells
def Has (l : List In) (a : Nat) (k : List In) : Prop := ∀ i (h : i < k.length), l[a + i]? = some k[i]
theorem Has.left {l : List In} {a : Nat} {k k' : List In} (h : Has l a (k ++ k')) : Has l a k := fun i hi => by
  rw [h i (by rw [List.length_append]; omega), List.getElem_append_left hi]
theorem Has.right {l : List In} {a : Nat} {k k' : List In} (h : Has l a (k ++ k')) : Has l (a + k.length) k' := fun i hi => by
  rw [Nat.add_assoc, h (k.length + i) (by rw [List.length_append]; omega), List.getElem_append_right (by omega)]
  simp
theorem Has.one {l : List In} {a : Nat} {c : In} (h : Has l a [c]) : l[a]? = some c := h 0 (by simp)
def Codes (x : Rx) (a : Nat) (k : List In) : Prop := ∀ l, Has l a k → Blk l x a (a + k.length)
def Pat (l : List In) (a : Nat) (k : List In) (js : List Nat) (f : Nat → In → In) : Prop := ∀ i (h : i < k.length), l[a + i]? = some (if a + i ∈ js then f (a + i) k[i] else k[i])
theorem Pat.left {l : List In} {a : Nat} {k k' : List In} {js js' : List Nat} {f : Nat → In → In} (h : Pat l a (k ++ k') (js ++ js') f) (hj : ∀ p, p ∈ js' → a + k.length ≤ p) : Pat l a k js f := fun i hi => by
  rw [h i (by rw [List.length_append]; omega), List.getElem_append_left hi]
  have : a + i ∉ js' := fun hm => by have := hj _ hm; omega
  simp [List.mem_append, this]
theorem Pat.right {l : List In} {a : Nat} {k k' : List In} {js js' : List Nat} {f : Nat → In → In} (h : Pat l a (k ++ k') (js ++ js') f) (hj : ∀ p, p ∈ js → p < a + k.length) : Pat l (a + k.length) k' js' f := fun i hi => by
  rw [Nat.add_assoc, h (k.length + i) (by rw [List.length_append]; omega), List.getElem_append_right (by omega)]
  have : a + (k.length + i) ∉ js := fun hm => by have := hj _ hm; omega
  simp [List.mem_append, this]
theorem Pat.has {l : List In} {a : Nat} {k : List In} {f : Nat → In → In} (h : Pat l a k [] f) : Has l a k := fun i hi => by rw [h i hi]; simp
def outTo (e : Nat) : Nat → In → In := fun _ c => ⟨c.op, e, c.alt, c.arg, c.rs⟩
structure AltPre (ks : List Rx) (a : Nat) (k : List In) (js : List Nat) : Prop where
  at' : ∀ p, p ∈ js → a ≤ p ∧ p < a + k.length
  blk : ∀ l e, Pat l a k js (outTo e) → ∀ rest, rest ≠ [] → BlkA l rest (a + k.length) e → BlkA l (ks ++ rest) a e
theorem AltPre.nil (a : Nat) : AltPre [] a [] [] := ⟨fun p h => (by cases h), fun l e _ rest _ h => h⟩
theorem AltPre.done {ks : List Rx} {a : Nat} {k kx : List In} {js : List Nat} {x : Rx} (h : AltPre ks a k js) (hx : Codes x (a + k.length) kx) {l : List In} (hp : Pat l a (k ++ kx) js (outTo (a + k.length + kx.length))) : BlkA l (ks ++ [x]) a (a + k.length + kx.length) := by
  have hp' : Pat l a (k ++ kx) (js ++ []) (outTo (a + k.length + kx.length)) := by rw [List.append_nil]; exact hp
  refine h.blk l _ (hp'.left (fun p hp => by cases hp)) [x] (by simp) ?_
  rw [BlkA]
  exact ⟨fun _ => hx l (hp'.right (fun p hp => (h.at' p hp).2)).has, fun h => (h rfl).elim⟩
def turnTo (z : Bool) (e : Nat) : Nat → In → In := fun p c => ⟨c.op, if z then (e : Int) else (p : Int) + 1, if z then (p : Int) + 1 else (e : Int), c.arg, c.rs⟩
def RepC (ks : List Rx) (j a : Nat) (k : List In) : Prop := ∀ l, Has l a k → Rep (Blks l ks) j a (a + k.length)
theorem RepC.nil (ks : List Rx) (a : Nat) : RepC ks 0 a [] := fun l _ => rfl
structure OptPre (z : Bool) (x : Rx) (j a : Nat) (k : List In) (js : List Nat) : Prop where
  at' : ∀ p, p ∈ js → a ≤ p ∧ p < a + k.length
  blk : ∀ l e, Pat l a k js (turnTo z e) → ∀ r, Opt l z (Blks l [x]) e r (a + k.length) → Opt l z (Blks l [x]) e (j + r) a
theorem OptPre.nil (z : Bool) (x : Rx) (a : Nat) : OptPre z x 0 a [] [] := ⟨fun p h => (by cases h), fun l e _ r h => by rw [Nat.zero_add]; exact h⟩
def Iv.outTo (e : Nat) : Nat → Iv → Iv := fun p x => (Go.Proofs.YtgnpldackjbdjaaGreat.outTo e p x.1, x.2)
def Iv.turnTo (z : Bool) (e : Nat) : Nat → Iv → Iv := fun p x => (Go.Proofs.YtgnpldackjbdjaaGreat.turnTo z e p x.1, x.2)
end Go.Proofs.YtgnpldackjbdjaaGreat
namespace Go.Proofs.YtgnpldackjbdjaaGreat
open Go.W Go.Lib
def IsR (n : Int) : Prop := 0 ≤ n ∧ n ≤ 1114111 ∧ (n < 55296 ∨ 57343 < n)
instance (n : Int) : Decidable (IsR n) := by unfold IsR; infer_instance
def formN (m : Nat) : List Nat :=
  if m < 128 then [m] else if m < 2048 then [192 + m / 64, 128 + m % 64] else if m < 65536 then [224 + m / 4096, 128 + m / 64 % 64, 128 + m % 64]
  else [240 + m / 262144, 128 + m / 4096 % 64, 128 + m / 64 % 64, 128 + m % 64]
def formB (n : Int) : List Nat := if IsR n then formN n.toNat else []
theorem formB_lt (n : Int) : ∀ b, b ∈ formB n → b < 256 := by
  unfold formB
  split
  · rename_i h
    unfold IsR at h
    unfold formN
    repeat' split
    all_goals (intro b hb; simp at hb; omega)
  · intro b hb; cases hb
theorem formB_len (n : Int) : (formB n).length ≤ 4 := by
  unfold formB formN
  repeat' split
  all_goals simp
def guessB (s : ByteArray) (a w : Nat) : Int :=
  if w = 1 then (sb s a : Int) else if w = 2 then ((sb s a : Int) - 192) * 64 + sb s (a + 1) - 128
  else if w = 3 then (((sb s a : Int) - 224) * 64 + sb s (a + 1) - 128) * 64 + sb s (a + 2) - 128
  else ((((sb s a : Int) - 240) * 64 + sb s (a + 1) - 128) * 64 + sb s (a + 2) - 128) * 64 + sb s (a + 3) - 128
def bytesAt (s : ByteArray) (a w : Nat) : List Nat := (List.range w).map fun k => sb s (a + k)
theorem bytesAt_lt (s : ByteArray) (a w : Nat) : ∀ b, b ∈ bytesAt s a w → b < 256 := by
  intro b hb
  simp only [bytesAt, List.mem_map] at hb
  obtain ⟨k, _, rfl⟩ := hb
  exact sb_lt _ _
theorem extract_bytes (s : ByteArray) (a w : Nat) (h : a + w ≤ s.size) : s.extract a (a + w) = bstr (bytesAt s a w) := by
  apply ByteArray.ext
  apply Array.ext
  · have e1 : (s.extract a (a + w)).data.size = w := by have := s.size_extract (b := a) (e := a + w); rw [ByteArray.size] at this; omega
    rw [e1]; simp [bstr, bytesAt]
  · intro i h1 h2
    simp only [bstr, bytesAt, List.map_map, List.getElem_toArray, List.getElem_map, List.getElem_range, Function.comp_def, ByteArray.data_extract, Array.getElem_extract]
    have h3 : a + i < s.size := by simp [bstr, bytesAt] at h2; omega
    apply UInt8.toNat_inj.1
    have := sb_lt s (a + i)
    rw [UInt8.toNat_ofNat_of_lt' (by simpa using this), sb_get s _ h3]
    rfl
def Hit (s : ByteArray) (a w : Nat) : Prop := formB (guessB s a w) = bytesAt s a w
theorem hit_len {s : ByteArray} {a w : Nat} (h : Hit s a w) : (formB (guessB s a w)).length = w := by rw [h]; simp [bytesAt]
theorem hit_eq {s : ByteArray} {a w : Nat} (h : a + w ≤ s.size) : Hit s a w ↔ s.extract a (a + w) = bstr (formB (guessB s a w)) := by
  rw [extract_bytes s a w h, bstr_inj (bytesAt_lt s a w) (formB_lt _)]
  exact ⟨fun h => h.symm, fun h => h.symm⟩
section
variable {b0 b1 b2 b3 : Nat}
theorem form1 (h0 : b0 < 256) : formB (b0 : Int) = [b0] ↔ b0 < 128 := by
  unfold formB formN
  constructor
  · intro h
    repeat' split at h
    all_goals simp at h
    all_goals omega
  · intro h
    rw [if_pos (by unfold IsR; omega), if_pos (by omega)]; simp
theorem form2 (h0 : b0 < 256) (h1 : b1 < 256) : formB (((b0 : Int) - 192) * 64 + b1 - 128) = [b0, b1] ↔ (b0 / 32 = 6 ∧ b1 / 64 = 2 ∧ 128 ≤ b0 % 32 * 64 + b1 % 64) := by
  unfold formB formN
  constructor
  · intro h
    repeat' split at h
    all_goals simp at h
    all_goals unfold IsR at *
    all_goals omega
  · intro h
    rw [if_pos (by unfold IsR; omega), if_neg (by omega), if_pos (by omega)]; simp; omega
theorem form3 (h0 : b0 < 256) (h1 : b1 < 256) (h2 : b2 < 256) : formB ((((b0 : Int) - 224) * 64 + b1 - 128) * 64 + b2 - 128) = [b0, b1, b2] ↔
    (b0 / 16 = 14 ∧ b1 / 64 = 2 ∧ b2 / 64 = 2 ∧ 2048 ≤ b0 % 16 * 4096 + b1 % 64 * 64 + b2 % 64 ∧ (b0 % 16 * 4096 + b1 % 64 * 64 + b2 % 64 < 55296 ∨ 57343 < b0 % 16 * 4096 + b1 % 64 * 64 + b2 % 64)) := by
  unfold formB formN
  constructor
  · intro h
    repeat' split at h
    all_goals simp at h
    all_goals unfold IsR at *
    all_goals omega
  · intro h
    rw [if_pos (by unfold IsR; omega), if_neg (by omega), if_neg (by omega), if_pos (by omega)]; simp; omega
theorem form4 (h0 : b0 < 256) (h1 : b1 < 256) (h2 : b2 < 256) (h3 : b3 < 256) : formB (((((b0 : Int) - 240) * 64 + b1 - 128) * 64 + b2 - 128) * 64 + b3 - 128) = [b0, b1, b2, b3] ↔
    (b0 / 8 = 30 ∧ b1 / 64 = 2 ∧ b2 / 64 = 2 ∧ b3 / 64 = 2 ∧ 65536 ≤ b0 % 8 * 262144 + b1 % 64 * 4096 + b2 % 64 * 64 + b3 % 64 ∧ b0 % 8 * 262144 + b1 % 64 * 4096 + b2 % 64 * 64 + b3 % 64 ≤ 1114111) := by
  unfold formB formN
  constructor
  · intro h
    repeat' split at h
    all_goals simp at h
    all_goals unfold IsR at *
    all_goals omega
  · intro h
    rw [if_pos (by unfold IsR; omega), if_neg (by omega), if_neg (by omega), if_neg (by omega)]; simp; omega
end
theorem hit1 (s : ByteArray) (a : Nat) : Hit s a 1 ↔ sb s a < 128 := by
  have := form1 (sb_lt s a)
  simpa [Hit, guessB, bytesAt] using this
theorem hit2 (s : ByteArray) (a : Nat) : Hit s a 2 ↔ (sb s a / 32 = 6 ∧ sb s (a + 1) / 64 = 2 ∧ 128 ≤ sb s a % 32 * 64 + sb s (a + 1) % 64) := by
  have := form2 (sb_lt s a) (sb_lt s (a + 1))
  simpa [Hit, guessB, bytesAt, List.range_succ] using this
theorem hit3 (s : ByteArray) (a : Nat) : Hit s a 3 ↔ (sb s a / 16 = 14 ∧ sb s (a + 1) / 64 = 2 ∧ sb s (a + 2) / 64 = 2 ∧ 2048 ≤ sb s a % 16 * 4096 + sb s (a + 1) % 64 * 64 + sb s (a + 2) % 64 ∧ (sb s a % 16 * 4096 + sb s (a + 1) % 64 * 64 + sb s (a + 2) % 64 < 55296 ∨ 57343 < sb s a % 16 * 4096 + sb s (a + 1) % 64 * 64 + sb s (a + 2) % 64)) := by
  have := form3 (sb_lt s a) (sb_lt s (a + 1)) (sb_lt s (a + 2))
  simpa [Hit, guessB, bytesAt, List.range_succ] using this
theorem hit4 (s : ByteArray) (a : Nat) : Hit s a 4 ↔ (sb s a / 8 = 30 ∧ sb s (a + 1) / 64 = 2 ∧ sb s (a + 2) / 64 = 2 ∧ sb s (a + 3) / 64 = 2 ∧ 65536 ≤ sb s a % 8 * 262144 + sb s (a + 1) % 64 * 4096 + sb s (a + 2) % 64 * 64 + sb s (a + 3) % 64 ∧ sb s a % 8 * 262144 + sb s (a + 1) % 64 * 4096 + sb s (a + 2) % 64 * 64 + sb s (a + 3) % 64 ≤ 1114111) := by
  have := form4 (sb_lt s a) (sb_lt s (a + 1)) (sb_lt s (a + 2)) (sb_lt s (a + 3))
  simpa [Hit, guessB, bytesAt, List.range_succ] using this
theorem decode_sb (s : ByteArray) (i : Nat) : Utf8.decode s i = decodeN (s.size - i) (sb s i) (sb s (i + 1)) (sb s (i + 2)) (sb s (i + 3)) := decode_at s i
theorem decode_cases (s : ByteArray) (a : Nat) (ha : a < s.size) :
    (∃ w, 1 ≤ w ∧ w ≤ 4 ∧ a + w ≤ s.size ∧ Hit s a w ∧ Utf8.decode s a = ((guessB s a w).toNat, w) ∧ 0 ≤ guessB s a w ∧ (guessB s a w ≤ 1114111) ∧ ∀ w', Hit s a w' → 1 ≤ w' → w' ≤ 4 → w' = w) ∨
    ((∀ w, 1 ≤ w → w ≤ 4 → a + w ≤ s.size → ¬ Hit s a w) ∧ Utf8.decode s a = (65533, 1)) := by
  have h0 := sb_lt s a
  have h1 := sb_lt s (a + 1)
  have h2 := sb_lt s (a + 2)
  have h3 := sb_lt s (a + 3)
  have k1 := hit1 s a
  have k2 := hit2 s a
  have k3 := hit3 s a
  have k4 := hit4 s a
  have all : ∀ {p : Nat → Prop}, p 1 → p 2 → p 3 → p 4 → ∀ w, 1 ≤ w → w ≤ 4 → p w := by
    intro p p1 p2 p3 p4 w hw hw'
    have : w = 1 ∨ w = 2 ∨ w = 3 ∨ w = 4 := by omega
    rcases this with rfl | rfl | rfl | rfl <;> assumption
  rw [decode_sb]
  unfold decodeN
  split
  · rename_i c
    exact .inl ⟨1, by omega, by omega, by omega, k1.2 c, by simp [guessB], by simp [guessB], by simp [guessB]; omega, fun w' hw h1 h4 => by revert hw; revert w'; exact fun w' h1 h4 => all (p := fun w' => Hit s a w' → w' = 1) (fun _ => rfl) (fun h => by have := k2.1 h; omega) (fun h => by have := k3.1 h; omega) (fun h => by have := k4.1 h; omega) w' h1 h4⟩
  · rename_i c1
    split
    · rename_i c2
      split
      · rename_i c3
        exact .inl ⟨2, by omega, by omega, by omega, k2.2 ⟨c2.1, c2.2.2, c3⟩, by simp [guessB]; omega, by simp [guessB]; omega, by simp [guessB]; omega, fun w' hw h1 h4 => by revert hw; revert w'; exact fun w' h1 h4 => all (p := fun w' => Hit s a w' → w' = 2) (fun h => by have := k1.1 h; omega) (fun h => rfl) (fun h => by have := k3.1 h; omega) (fun h => by have := k4.1 h; omega) w' h1 h4⟩
      · rename_i c3
        exact .inr ⟨all (p := fun w => a + w ≤ s.size → ¬ Hit s a w) (fun _ h => by have := k1.1 h; omega) (fun _ h => by have := k2.1 h; omega) (fun _ h => by have := k3.1 h; omega) (fun _ h => by have := k4.1 h; omega), rfl⟩
    · rename_i c2
      split
      · rename_i c4
        split
        · rename_i c3
          exact .inl ⟨3, by omega, by omega, by omega, k3.2 (by omega), by simp [guessB]; omega, by simp [guessB]; omega, by simp [guessB]; omega, fun w' hw h1 h4 => by revert hw; revert w'; exact fun w' h1 h4 => all (p := fun w' => Hit s a w' → w' = 3) (fun h => by have := k1.1 h; omega) (fun h => by have := k2.1 h; omega) (fun h => rfl) (fun h => by have := k4.1 h; omega) w' h1 h4⟩
        · rename_i c3
          exact .inr ⟨all (p := fun w => a + w ≤ s.size → ¬ Hit s a w) (fun _ h => by have := k1.1 h; omega) (fun _ h => by have := k2.1 h; omega) (fun _ h => by have := k3.1 h; omega) (fun _ h => by have := k4.1 h; omega), rfl⟩
      · rename_i c4
        split
        · rename_i c5
          split
          · rename_i c3
            exact .inl ⟨4, by omega, by omega, by omega, k4.2 (by omega), by simp [guessB]; omega, by simp [guessB]; omega, by simp [guessB]; omega, fun w' hw h1 h4 => by revert hw; revert w'; exact fun w' h1 h4 => all (p := fun w' => Hit s a w' → w' = 4) (fun h => by have := k1.1 h; omega) (fun h => by have := k2.1 h; omega) (fun h => by have := k3.1 h; omega) (fun h => rfl) w' h1 h4⟩
          · rename_i c3
            exact .inr ⟨all (p := fun w => a + w ≤ s.size → ¬ Hit s a w) (fun _ h => by have := k1.1 h; omega) (fun _ h => by have := k2.1 h; omega) (fun _ h => by have := k3.1 h; omega) (fun _ h => by have := k4.1 h; omega), rfl⟩
        · rename_i c5
          exact .inr ⟨all (p := fun w => a + w ≤ s.size → ¬ Hit s a w) (fun _ h => by have := k1.1 h; omega) (fun _ h => by have := k2.1 h; omega) (fun _ h => by have := k3.1 h; omega) (fun _ h => by have := k4.1 h; omega), rfl⟩
theorem next_hit {s : ByteArray} {a w : Nat} (hw : 1 ≤ w) (hw4 : w ≤ 4) (hs : a + w ≤ s.size) (h : Hit s a w) : nextR s a = (guessB s a w, w) ∧ 0 ≤ guessB s a w ∧ guessB s a w ≤ 1114111 := by
  rcases decode_cases s a (by omega) with ⟨w', h1, h2, h3, h4, h5, h6, h7, h8⟩ | ⟨h1, _⟩
  · have : w = w' := h8 w h hw hw4
    subst this
    have hne : ¬ (((guessB s a w).toNat, w).1 = 65533 ∧ ((guessB s a w).toNat, w).2 = 1) := fun ⟨e1, e2⟩ => by
      simp only at e1 e2
      subst e2
      have := (hit1 s a).1 h
      simp [guessB] at e1
      omega
    refine ⟨?_, h6, h7⟩
    unfold nextR
    rw [h5, if_pos ⟨by omega, hne⟩]
    simp only [Int.toNat_of_nonneg h6]
  · exact absurd h (h1 w hw hw4 hs)
theorem next_none {s : ByteArray} {a : Nat} (h : ∀ w, 1 ≤ w → w ≤ 4 → a + w ≤ s.size → ¬ Hit s a w) : nextR s a = (-1, 0) := by
  unfold nextR
  by_cases ha : a < s.size
  · rcases decode_cases s a ha with ⟨w', h1, h2, h3, h4, _⟩ | ⟨_, h2⟩
    · exact absurd h4 (h w' h1 h2 h3)
    · rw [h2]; simp
  · rw [if_neg (by omega)]
theorem next_out {s : ByteArray} {a : Nat} (h : s.size ≤ a) : nextR s a = (-1, 0) := next_none fun w h1 h2 h3 => by omega
theorem next_cases (s : ByteArray) (a : Nat) : nextR s a = (-1, 0) ∨ (0 ≤ (nextR s a).1 ∧ (nextR s a).1 ≤ 1114111 ∧ 1 ≤ (nextR s a).2 ∧ (nextR s a).2 ≤ 4 ∧ a + (nextR s a).2 ≤ s.size) := by
  by_cases ha : a < s.size
  · rcases decode_cases s a ha with ⟨w', h1, h2, h3, h4, h5, h6, h7, _⟩ | ⟨h1, h2⟩
    · right
      rw [(next_hit h1 h2 h3 h4).1]
      exact ⟨h6, h7, h1, h2, h3⟩
    · exact .inl (next_none h1)
  · exact .inl (next_out (by omega))
theorem sb_extract {s : ByteArray} {a b k : Nat} (hb : b ≤ s.size) (hk : a + k < b) : sb (s.extract a b) k = sb s (a + k) := by
  rw [sb_get _ _ (by simp; omega), sb_get _ _ (by omega)]
  simp only [ByteArray.getElem_extract]
theorem decodeN_cut {n m b0 b1 b2 b3 c1 c2 c3 : Nat} (h : m = min n 4) (h1 : 1 < n → c1 = b1) (h2 : 2 < n → c2 = b2) (h3 : 3 < n → c3 = b3) : decodeN m b0 c1 c2 c3 = decodeN n b0 b1 b2 b3 := by
  have e1 : (1 < m) = (1 < n) := propext (by omega)
  have e2 : (2 < m) = (2 < n) := propext (by omega)
  have e3 : (3 < m) = (3 < n) := propext (by omega)
  unfold decodeN
  simp only [e1, e2, e3]
  by_cases k1 : 1 < n <;> by_cases k2 : 2 < n <;> by_cases k3 : 3 < n <;> simp only [k1, k2, k3, h1, h2, h3, true_and, and_true, false_and, and_false, if_false, ↓reduceIte]
theorem decode_cut (s : ByteArray) (a : Nat) (ha : a < s.size) : Utf8.decode (s.extract a (min s.size (a + 4))) 0 = Utf8.decode s a := by
  rw [decode_sb, decode_sb]
  simp only [Nat.zero_add]
  have hsz : (s.extract a (min s.size (a + 4))).size = min (s.size - a) 4 := by simp; omega
  have hb : min s.size (a + 4) ≤ s.size := by omega
  have h0 : sb (s.extract a (min s.size (a + 4))) 0 = sb s a := by rw [sb_extract hb (by omega)]; rfl
  rw [h0]
  refine decodeN_cut (by omega) (fun h => ?_) (fun h => ?_) (fun h => ?_) <;> rw [sb_extract hb (by omega)]
theorem decode_fffd (s : ByteArray) (a : Nat) (h : (Utf8.decode s a).1 = 65533) (ha : a < s.size) : (Utf8.decode s a).2 = 1 ∨ (Utf8.decode s a).2 = 3 := by
  rcases decode_cases s a ha with ⟨w, h1, h2, h3, h4, h5, h6, h7, _⟩ | ⟨_, h2⟩
  · rw [h5] at h ⊢
    simp only at h ⊢
    have hh := h4
    unfold Hit at hh
    have e : guessB s a w = 65533 := by omega
    rw [e] at hh
    have := congrArg List.length hh
    simp [bytesAt, formB, IsR, formN] at this
    omega
  · rw [h2]; exact .inl rfl
theorem decode_repl (s : ByteArray) (a : Nat) (h : (Utf8.decode s a).1 = 65533) (ha : a < s.size) : (Utf8.decode s a).2 = 3 ↔ (a + 3 ≤ s.size ∧ s.extract a (a + 3) = bstr [239, 191, 189]) := by
  constructor
  · intro h3
    rcases decode_cases s a ha with ⟨w, h1, h2, hs, h4, h5, h6, h7, _⟩ | ⟨_, h2⟩
    · rw [h5] at h h3
      simp only at h h3
      subst h3
      refine ⟨hs, ?_⟩
      rw [(hit_eq hs).1 h4]
      have e : guessB s a 3 = 65533 := by omega
      rw [e]; rfl
    · rw [h2] at h3; cases h3
  · rintro ⟨hs, he⟩
    have hg : bytesAt s a 3 = [239, 191, 189] := by
      rw [extract_bytes s a 3 hs] at he
      exact (bstr_inj (bytesAt_lt s a 3) (by intro b hb; simp at hb; omega)).1 he
    simp [bytesAt, List.range_succ] at hg
    have k3 := (hit3 s a).2 (by omega)
    have := (next_hit (by omega) (by omega) hs k3)
    rcases decode_cases s a ha with ⟨w, h1, h2, hs, h4, h5, h6, h7, h8⟩ | ⟨hn, h2⟩
    · rw [h5]; exact (h8 3 k3 (by omega) (by omega)).symm
    · exact absurd k3 (hn 3 (by omega) (by omega) hs)
theorem decode_width (s : ByteArray) (a : Nat) (ha : a < s.size) (h : ¬ ((Utf8.decode s a).1 = 65533 ∧ (Utf8.decode s a).2 = 1)) :
    (Utf8.decode s a).2 = if (Utf8.decode s a).1 < 128 then 1 else if (Utf8.decode s a).1 < 2048 then 2 else if (Utf8.decode s a).1 < 65536 then 3 else 4 := by
  rcases decode_cases s a ha with ⟨w, h1, h2, h3, h4, h5, h6, h7, _⟩ | ⟨_, h2⟩
  · rw [h5]
    have hl := hit_len h4
    unfold formB formN at hl
    simp only
    repeat' split at hl
    all_goals simp at hl
    all_goals subst hl
    all_goals (repeat' split)
    all_goals omega
  · rw [h2] at h; exact absurd ⟨rfl, rfl⟩ h
end Go.Proofs.YtgnpldackjbdjaaGreat
namespace Go.Proofs.YtgnpldackjbdjaaGreat
open Go.W Go.RowKit
set_option linter.unusedVariables false
set_option linter.unusedSimpArgs false
def offs (s : ByteArray) : Nat → Nat
  | 0 => 0
  | k + 1 => offs s k + (nextR s (offs s k)).2
def runeK (s : ByteArray) (k : Nat) : Int := (nextR s (offs s k)).1
def Utf (s : ByteArray) (N : Nat) : Prop := offs s N = s.size ∧ ∀ k, k < N → 0 < (nextR s (offs s k)).2
def runesK (s : ByteArray) (N : Nat) : List Int := (List.range N).map (runeK s)
theorem offs_le (s : ByteArray) (k : Nat) : offs s k ≤ s.size := by
  induction k with
  | zero => exact Nat.zero_le _
  | succ k ih =>
    rw [offs]
    rcases next_cases s (offs s k) with h | h
    · rw [h]; exact ih
    · exact h.2.2.2.2
theorem offs_mono (s : ByteArray) {a b : Nat} (h : a ≤ b) : offs s a ≤ offs s b := by
  induction h with
  | refl => exact Nat.le_refl _
  | step _ ih => rw [offs]; omega
theorem offs_lt {s : ByteArray} {N a b : Nat} (h : ∀ k, k < N → 0 < (nextR s (offs s k)).2) (hab : a < b) (hb : b ≤ N) : offs s a < offs s b := by
  have h1 := h a (by omega)
  have h2 : offs s (a + 1) ≤ offs s b := offs_mono s hab
  rw [offs] at h2
  omega
def WordB (s : ByteArray) (j : Int) : Prop := 0 ≤ j ∧ j < s.size ∧ wordN (sb s j.toNat)
instance (s : ByteArray) (j : Int) : Decidable (WordB s j) := by unfold WordB; infer_instance
def GoesB (s : ByteArray) (c : In) (i : Nat) : Prop := c.op = 3 ∨ c.op = 4 ∨ c.op = 10 ∨ (c.op = 5 ∧ i = 0) ∨ (c.op = 6 ∧ i = s.size) ∨ (c.op = 7 ∧ (i = 0 ∨ sb s (i - 1) = 10)) ∨ (c.op = 8 ∧ (i = s.size ∨ sb s i = 10)) ∨
  (c.op = 9 ∧ (¬ (WordB s ((i : Int) - 1) ↔ WordB s i) ↔ c.arg = 0))
def EpsB (l : List In) (s : ByteArray) (i p q : Nat) : Prop := ∃ c, l[p]? = some c ∧ GoesB s c i ∧ ((q : Int) = c.out ∨ (c.op = 3 ∧ (q : Int) = c.alt))
def Nice (c : In) : Prop := c.op ≠ 1 ∧ 0 ≤ c.out ∧ 0 ≤ c.alt ∧ c.rs.length ≤ 1048576
structure ProgOk (x : Rx) (l : List In) (n : Nat) : Prop where
  len : l.length = n + 1
  last : l[n]? = some ⟨1, 0, 0, 0, []⟩
  ops : ∀ p c, p < n → l[p]? = some c → Nice c
  blk : Blk l x 0 n
  good : Good x
section
variable {x : Rx} {l : List In} {n : Nat}
theorem ProgOk.leads (h : ProgOk x l n) (rs : List Int) : Leads l rs 0 n (Mt rs x) := blk_leads h.good 0 n h.blk
structure RngC (m : Nat) (c : In) : Prop where
  eps : (3 ≤ c.op ∧ c.op ≤ 10) → 0 ≤ c.out ∧ c.out < m
  alt : c.op = 3 → 0 ≤ c.alt ∧ c.alt < m
  eat : c.op = 2 → (∃ r, InR r c.rs) → 0 ≤ c.out ∧ c.out < m
def Rng (l : List In) : Prop := ∀ (p : Nat) (c : In), l[p]? = some c → RngC l.length c
theorem ProgOk.rng (h : ProgOk x l n) : Rng l := fun p c hc => by
  have hlen := h.len
  by_cases hp : p < n
  · obtain ⟨h1, h2, h3, -⟩ := h.ops p c hp hc
    have key : ∀ (rs : List Int) (i : Nat), GoesOn rs c i → c.out < l.length := fun rs i hg => by
      have := (h.leads rs).cl p i c.out.toNat i (by omega) hp (.inl ⟨rfl, c, hc, hg, .inl (by omega)⟩)
      omega
    refine ⟨fun h4 => ⟨h2, ?_⟩, fun h5 => ⟨h3, ?_⟩, fun h4 ⟨r, hr⟩ => ⟨h2, ?_⟩⟩
    · have e : c.op = 3 ∨ c.op = 4 ∨ c.op = 10 ∨ (c.op = 5 ∨ c.op = 6 ∨ c.op = 7 ∨ c.op = 8) ∨ c.op = 9 := by omega
      rcases e with e | e | e | e | e
      · exact key [] 0 (by unfold GoesOn; omega)
      · exact key [] 0 (by unfold GoesOn; omega)
      · exact key [] 0 (by unfold GoesOn; omega)
      · refine key [] 0 ?_
        unfold GoesOn Plc
        rcases e with e | e | e | e <;> rw [e] <;> simp
      · by_cases ha : c.arg = 0
        · refine key [97] 0 ?_
          unfold GoesOn Plc Bef Aft
          rw [e, ha]; simp [wordI]
        · refine key [] 0 ?_
          unfold GoesOn Plc Bef Aft
          rw [e, if_neg ha]; simp
    · have := (h.leads []).cl p 0 c.alt.toNat 0 (by omega) hp (.inl ⟨rfl, c, hc, .inl h5, .inr ⟨h5, by omega⟩⟩)
      omega
    · have := (h.leads [r]).cl p 0 c.out.toNat 1 (by omega) hp (.inr ⟨rfl, c, hc, h4, by omega, r, rfl, hr⟩)
      omega
  · have h1 := (List.getElem?_eq_some_iff.1 hc).1
    obtain rfl : p = n := by omega
    rw [h.last] at hc
    cases hc
    exact ⟨fun h => by simp at h, fun h => by simp at h, fun h => by simp at h⟩
end
inductive EpsS (l : List In) (s : ByteArray) (i : Nat) (init : List Nat) : Nat → Prop
  | base {q : Nat} : q ∈ init → EpsS l s i init q
  | step {p q : Nat} : EpsS l s i init p → EpsB l s i p q → EpsS l s i init q
structure SI (l : List In) (s : ByteArray) (i : Nat) (init ls : List Nat) (k : Nat) (out : List Nat) : Prop where
  le : k ≤ ls.length
  bound : ls.length ≤ init.length + 2 * out.length
  rng : ∀ q, q ∈ ls → q < l.length
  nd : out.Nodup
  done : ∀ j (h : j < ls.length), j < k → ls[j] ∈ out
  succ : ∀ p q, p ∈ out → EpsB l s i p q → q ∈ ls
  sound : ∀ q, q ∈ ls → EpsS l s i init q
  sub : ∀ q, q ∈ out → q ∈ ls
  init : ∀ q, q ∈ init → q ∈ ls
section
variable {l : List In} {s : ByteArray} {i : Nat} {init ls out : List Nat} {k : Nat}
theorem SI.skip (h : SI l s i init ls k out) (hk : k < ls.length) (hm : ls[k] ∈ out) : SI l s i init ls (k + 1) out where
  le := hk
  bound := h.bound
  rng := h.rng
  nd := h.nd
  done := fun j hj hjk => by
    by_cases e : j < k
    · exact h.done j hj e
    · obtain rfl : j = k := by omega
      exact hm
  succ := h.succ
  sound := h.sound
  sub := h.sub
  init := h.init
theorem SI.take (h : SI l s i init ls k out) (hk : k < ls.length) (hm : ls[k] ∉ out) {more : List Nat} (h2 : more.length ≤ 2) (hmore : ∀ q, q ∈ more ↔ EpsB l s i ls[k] q) (hr : ∀ q, q ∈ more → q < l.length) : SI l s i init (ls ++ more) (k + 1) (out ++ [ls[k]]) where
  le := by rw [List.length_append]; omega
  bound := by have := h.bound; simp only [List.length_append, List.length_cons, List.length_nil]; omega
  rng := fun q hq => by
    rcases List.mem_append.1 hq with hq | hq
    · exact h.rng q hq
    · exact hr q hq
  nd := by
    rw [List.nodup_append]
    exact ⟨h.nd, by simp, fun a ha b hb e => by rw [List.mem_singleton] at hb; subst hb; subst e; exact hm ha⟩
  done := fun j hj hjk => by
    rw [List.getElem_append_left (by omega)]
    by_cases e : j < k
    · exact List.mem_append_left _ (h.done j (by omega) e)
    · obtain rfl : j = k := by omega
      exact List.mem_append_right _ (by simp)
  succ := fun p q hp he => by
    rcases List.mem_append.1 hp with hp | hp
    · exact List.mem_append_left _ (h.succ p q hp he)
    · rw [List.mem_singleton] at hp; subst hp
      exact List.mem_append_right _ ((hmore q).2 he)
  sound := fun q hq => by
    rcases List.mem_append.1 hq with hq | hq
    · exact h.sound q hq
    · exact .step (h.sound _ (List.getElem_mem hk)) ((hmore q).1 hq)
  sub := fun q hq => by
    rcases List.mem_append.1 hq with hq | hq
    · exact List.mem_append_left _ (h.sub q hq)
    · rw [List.mem_singleton] at hq; subst hq
      exact List.mem_append_left _ (List.getElem_mem hk)
  init := fun q hq => List.mem_append_left _ (h.init q hq)
end
end Go.Proofs.YtgnpldackjbdjaaGreat
namespace Go.W
open Go.RowKit
set_option linter.unusedVariables false
set_option linter.unusedSimpArgs false
set_option linter.unusedSectionVars false
section
variable {P : Program} {σ : Env} {w : World} {dst : Option Nat} {T : TypeId} {pos : String} {after : Array Edge} {g : Option (Nat × Bool)}
theorem ex_indexAddrA {x i : Operand} {t : TypeId} {k : IntKind} {n sz b o len c : Nat} {a : Option Addr} (hx : σ.ev x = some (.slice a len c)) (hi : σ.ev i = some (.int k (n : Nat))) (ha : a = some ⟨b, o, none⟩) (he : elemB P t = some sz) (hlt : n < len) :
    Ex P σ ⟨dst, .indexAddr t x i, T, pos, after, g⟩ w (.pointer (some ⟨b, o + n * sz, none⟩)) w := by
  subst ha; exact ex_indexAddr hx hi he hlt
theorem ex_ssubTo {x hi : Operand} {t : TypeId} {s : ByteArray} {hv : Int} {h : Nat} (hx : σ.ev x = some (.string s)) (hhi : σ.ev hi = some (.int .i64 hv)) (ht : P.underlying t = some .string) (hh : hv = (h : Int)) (hhc : h ≤ s.size) :
    Ex P σ ⟨dst, .slice t x none (some hi) none, T, pos, after, g⟩ w (.string (s.extract 0 h)) w := fun ρ hρ => by
  subst hh
  have := run_slice_string_h (P := P) w t s ht .i64 (h : Int) (by omega) (by omega)
  simp only [execOp, hρ x _ hx, Option.map_some, Option.map_none, hρ hi _ hhi, Instr.sliceAt, run_underlying ht, Sem.run_bind, Result.andThen_ok, this, Int.toNat_natCast, Sem.run_pure]
end
end Go.W
namespace Go.Proofs.YtgnpldackjbdjaaGreat
open Go.W Go.RowKit
set_option linter.unusedVariables false
set_option linter.unusedSimpArgs false
theorem hit_isR {s : ByteArray} {a w : Nat} (hw : 1 ≤ w) (h : Hit s a w) : IsR (guessB s a w) := by
  by_cases e : IsR (guessB s a w)
  · exact e
  · have := hit_len h
    rw [formB, if_neg e] at this
    simp at this; omega
instance (s : ByteArray) (c : In) (i : Nat) : Decidable (GoesB s c i) := by unfold GoesB; infer_instance
end Go.Proofs.YtgnpldackjbdjaaGreat
namespace Go.Proofs.YtgnpldackjbdjaaGreat
open Go.Proofs
open Go.W
attribute [local irreducible] Decidable.decide
set_option linter.unusedSimpArgs false
set_option linter.unusedVariables false
theorem Tryz.goes169 : Goes Tryz.prog 169 := ⟨_, Tryz.func169, by kernel_rfl, by kernel_rfl⟩
theorem Tryz.goes91 : Goes Tryz.prog 91 := ⟨_, Tryz.func91, by kernel_rfl, by kernel_rfl⟩
theorem Tryz.goes54 : Goes Tryz.prog 54 := ⟨_, Tryz.func54, by kernel_rfl, by kernel_rfl⟩
theorem Tryz.goes148 : Goes Tryz.prog 148 := ⟨_, Tryz.func148, by kernel_rfl, by kernel_rfl⟩
theorem Tryz.goes136 : Goes Tryz.prog 136 := ⟨_, Tryz.func136, by kernel_rfl, by kernel_rfl⟩
theorem Tryz.slice83 : sliceB Tryz.prog 83 = some (5, 1) := by kernel_rfl
theorem own_bstr {w : World} {e : TypeId} {a : Option Addr} {n c : Nat} {ds : List Nat} {ob : Option Nat} (h : OwnS w e 1 a n c (ds.map fun d : Nat => Value.int .u8 (d : Int)) ob) (hl : ds.length = n) (hb : ∀ b, b ∈ ds → b < 256) : RSl 1 RB [] w (.slice a n c) ds := by
  have e1 : (ds.map fun d : Nat => [Value.int .u8 (d : Int)]).flatten = ds.map fun d : Nat => Value.int .u8 (d : Int) := by clear h hl hb; induction ds with | nil => rfl | cons d ds ih => simpa using ih
  rw [← e1] at h
  exact RSl.ofOwn h ⟨by simp, fun k h1 h2 => by simp only [List.getElem_map]; exact ⟨rfl, rfl, hb _ (List.getElem_mem _)⟩⟩ hl (fun _ _ h => by cases h)
theorem guess_bound (s : ByteArray) (a k : Nat) : -100000000 ≤ guessB s a k ∧ guessB s a k ≤ 100000000 := by
  have b0 := sb_lt s a
  have b1 := sb_lt s (a + 1)
  have b2 := sb_lt s (a + 2)
  have b3 := sb_lt s (a + 3)
  unfold guessB
  repeat' split
  all_goals omega
theorem bstr_size (l : List Nat) : (bstr l).size = l.length := by simp [bstr, ByteArray.size]
theorem isr_iff {n : Int} : IsR n ↔ (0 ≤ n ∧ n ≤ 1114111 ∧ (n < 55296 ∨ 57343 < n)) := Iff.rfl
theorem isRune_ok {w : World} (n : Int) : Calls Tryz.prog 136 #[.int .i64 n] w (Ret fun v w' => v = .bool (decide (IsR n)) ∧ Evo [] w w') := by
  refine calls_of_cw (N := 17) Tryz.func136 rfl rfl rfl ?_; refine cw_seq ?_; refine cw_region ?_; refine wl_a ?_; refine wl_nil (nrm_then ?_); refine cw_seq ?_; refine cw_region ?_; refine wl_m ?_; refine wl_val rfl (ex_geq rfl rfl) ?_; refine wl_m ?_; refine wl_split (t := 5) rfl (fun hs5 => ?_) (fun hs5 => ?_)
  ·skip
   refine wl_g ?_; refine wl_m ?_; refine wl_g ?_; refine wl_val rfl (ex_leq rfl rfl) ?_; refine wl_pt ?_; refine wl_m ?_; refine wl_split (t := 9) rfl (fun hs9 => ?_) (fun hs9 => ?_)
   ·skip
    refine wl_g ?_; refine wl_m ?_; refine wl_g ?_; refine wl_val rfl (ex_lss rfl rfl) ?_; refine wl_g ?_; refine wl_m ?_; refine wl_split (t := 12) rfl (fun hs12 => ?_) (fun hs12 => ?_)
    ·skip
     refine wl_n ?_; refine wl_n ?_; refine wl_g ?_; refine wl_pt ?_; refine wl_pt ?_; refine wl_a ?_; refine wl_nil (nrm_then ?_); refine cw_ret (body_ret1 rfl rfl ?_)
     exact ⟨congrArg Value.bool (by first | exact decide_eq_decide.2 (by unfold IsR; omega) | exact (decide_eq_true (by unfold IsR; omega)).symm | exact (decide_eq_false (by unfold IsR; omega)).symm), (Evo.refl [] w)⟩
    ·skip
     refine wl_g ?_; refine wl_m ?_; refine wl_g ?_; refine wl_val rfl (ex_gtr rfl rfl) ?_; refine wl_g ?_; refine wl_pf ?_; refine wl_pt ?_; refine wl_a ?_; refine wl_nil (nrm_then ?_); refine cw_ret (body_ret1 rfl rfl ?_)
     exact ⟨congrArg Value.bool (by first | exact decide_eq_decide.2 (by unfold IsR; omega) | exact (decide_eq_true (by unfold IsR; omega)).symm | exact (decide_eq_false (by unfold IsR; omega)).symm), (Evo.refl [] w)⟩
   ·skip
    refine wl_n ?_; refine wl_n ?_; refine wl_n ?_; refine wl_u ?_; refine wl_u ?_; refine wl_n ?_; refine wl_pf ?_; refine wl_a ?_; refine wl_nil (nrm_then ?_); refine cw_ret (body_ret1 rfl rfl ?_)
    exact ⟨congrArg Value.bool (by first | exact decide_eq_decide.2 (by unfold IsR; omega) | exact (decide_eq_true (by unfold IsR; omega)).symm | exact (decide_eq_false (by unfold IsR; omega)).symm), (Evo.refl [] w)⟩
  ·skip
   refine wl_n ?_; refine wl_n ?_; refine wl_pf ?_; refine wl_m ?_; refine wl_n ?_; refine wl_n ?_; refine wl_n ?_; refine wl_u ?_; refine wl_u ?_; refine wl_n ?_; refine wl_pf ?_; refine wl_a ?_; refine wl_nil (nrm_then ?_); refine cw_ret (body_ret1 rfl rfl ?_)
   exact ⟨congrArg Value.bool (by first | exact decide_eq_decide.2 (by unfold IsR; omega) | exact (decide_eq_true (by unfold IsR; omega)).symm | exact (decide_eq_false (by unfold IsR; omega)).symm), (Evo.refl [] w)⟩
theorem form_ok {w : World} (n : Int) (hn : -9223372036854775808 ≤ n) (hn2 : n ≤ 9223372036854775807) : Calls Tryz.prog 91 #[.int .i64 n] w (Ret fun v w' => v = .string (bstr (formB n)) ∧ Evo [] w w') := by
  refine calls_of_cw (N := 60) Tryz.func91 rfl rfl rfl ?_; refine cw_seq ?_; refine cw_region ?_; refine wl_a ?_; refine wl_nil (nrm_then ?_); refine cw_seq ?_; refine cw_seq ?_; refine cw_region ?_; refine wl_m ?_; refine wl_call1 (vs := [_]) Tryz.goes136 rfl (isRune_ok _) rfl ?_; rintro _ w1 ⟨rfl, hw2⟩; have hE3 := (Evo.refl [] w).then hw2; refine wl_val rfl (ex_not rfl) ?_; refine wl_nil (nrm_then ?_); refine cw_if rfl (fun hc8 => ?_) (fun hc8 => ?_)
  ·skip
   refine cw_seq ?_; refine cw_region ?_; refine wl_a ?_; refine wl_nil (nrm_then ?_); refine cw_ret (ret_then (body_ret1 rfl rfl ?_))
   exact ⟨by rw [show formB n = [] from if_neg (by simpa using hc8)]; rfl, hE3⟩
  ·skip
   have hir : IsR n := by simpa using hc8
   have hir2 := isr_iff.1 hir; obtain ⟨m, rfl⟩ := Int.eq_ofNat_of_zero_le hir2.1; refine cw_skip (nrm_then ?_); refine cw_seq ?_; refine cw_region ?_; refine wl_m ?_; refine wl_val rfl (ex_remN (m := m) (n := 64) rfl rfl (by omega) (by omega) (by omega)) ?_; refine wl_val rfl (ex_add_i64 rfl rfl (by omega) (by omega)) ?_
   refine wl_val rfl (ex_convB (128 + m % 64) rfl Tryz.underlying3 Tryz.underlying5 (by omega) (by simp [IntKind.max, IntKind.bits, IntKind.signed] <;> omega)) ?_
   refine wl_a ?_; refine wl_nil (nrm_then ?_); refine cw_seq ?_; refine cw_region ?_; refine wl_m ?_
   refine wl_val rfl (ex_quoN (m := m) (n := 64) rfl rfl (by omega) (by omega) (by omega) (by simp [IntKind.max, IntKind.signed, IntKind.bits]; omega)) ?_
   refine wl_val rfl (ex_remN (m := m / 64) (n := 64) rfl rfl (by omega) (by omega) (by omega)) ?_; refine wl_val rfl (ex_add_i64 rfl rfl (by omega) (by omega)) ?_
   refine wl_val rfl (ex_convB (128 + m / 64 % 64) rfl Tryz.underlying3 Tryz.underlying5 (by omega) (by simp [IntKind.max, IntKind.bits, IntKind.signed] <;> omega)) ?_
   refine wl_a ?_; refine wl_nil (nrm_then ?_); refine cw_seq ?_; refine cw_region ?_; refine wl_m ?_
   refine wl_val rfl (ex_quoN (m := m) (n := 4096) rfl rfl (by omega) (by omega) (by omega) (by simp [IntKind.max, IntKind.signed, IntKind.bits]; omega)) ?_
   refine wl_val rfl (ex_remN (m := m / 4096) (n := 64) rfl rfl (by omega) (by omega) (by omega)) ?_; refine wl_val rfl (ex_add_i64 rfl rfl (by omega) (by omega)) ?_
   refine wl_val rfl (ex_convB (128 + m / 4096 % 64) rfl Tryz.underlying3 Tryz.underlying5 (by omega) (by simp [IntKind.max, IntKind.bits, IntKind.signed] <;> omega)) ?_
   refine wl_a ?_; refine wl_nil (nrm_then ?_); refine cw_seq ?_; refine cw_block ?_; refine cw_seq ?_; refine cw_region ?_; refine wl_m ?_; refine wl_val rfl (ex_lss rfl rfl) ?_; refine wl_a ?_; refine wl_nil (nrm_then ?_); refine cw_if rfl (fun hc23 => ?_) (fun hc23 => ?_)
   ·skip
    refine cw_seq ?_; refine cw_region ?_; refine wl_m ?_
    refine wl_val rfl (ex_convB (m) rfl Tryz.underlying3 Tryz.underlying5 (by omega) (by simp [IntKind.max, IntKind.bits, IntKind.signed] <;> omega)) ?_
    refine wl_bslice (vs := [_]) rfl Tryz.slice83 rfl rfl rfl rfl fun b4 w5 hO6 hs7 hw8 => ?_; have hG9 := Ge.new hE3 hs7; have hE10 := hE3.then hw8
    have hT28 := own_bstr (ds := [m]) hO6 rfl (by intro b hb; simp only [List.mem_cons, List.not_mem_nil, or_false] at hb; omega)
    refine wl_val rfl (ex_bstr rfl hT28 Tryz.underlying83 Tryz.underlying5 Tryz.underlying9) ?_; refine wl_a ?_; refine wl_nil (nrm_then ?_); refine cw_ret (ret_block (ret_then (body_ret1 rfl rfl ?_))); refine ⟨?_, hE10⟩
    rw [show formB (m : Int) = formN m from by rw [formB, if_pos hir]; rfl]
    unfold formN
    repeat' split
    all_goals first | rfl | omega
   ·skip
    refine cw_seq ?_; refine cw_region ?_; refine wl_m ?_; refine wl_val rfl (ex_lss rfl rfl) ?_; refine wl_a ?_; refine wl_nil (nrm_then ?_); refine cw_if rfl (fun hc30 => ?_) (fun hc30 => ?_)
    ·skip
     refine cw_seq ?_; refine cw_region ?_; refine wl_m ?_
     refine wl_val rfl (ex_quoN (m := m) (n := 64) rfl rfl (by omega) (by omega) (by omega) (by simp [IntKind.max, IntKind.signed, IntKind.bits]; omega)) ?_
     refine wl_val rfl (ex_add_i64 rfl rfl (by omega) (by omega)) ?_
     refine wl_val rfl (ex_convB (192 + m / 64) rfl Tryz.underlying3 Tryz.underlying5 (by omega) (by simp [IntKind.max, IntKind.bits, IntKind.signed] <;> omega)) ?_
     refine wl_m ?_; refine wl_bslice (vs := [_, _]) rfl Tryz.slice83 rfl rfl rfl rfl fun b11 w12 hO13 hs14 hw15 => ?_; have hG16 := Ge.new hE3 hs14; have hE17 := hE3.then hw15
     have hT38 := own_bstr (ds := [192 + m / 64, 128 + m % 64]) hO13 rfl (by intro b hb; simp only [List.mem_cons, List.not_mem_nil, or_false] at hb; omega)
     refine wl_val rfl (ex_bstr rfl hT38 Tryz.underlying83 Tryz.underlying5 Tryz.underlying9) ?_; refine wl_a ?_; refine wl_nil (nrm_then ?_); refine cw_ret (ret_block (ret_then (body_ret1 rfl rfl ?_))); refine ⟨?_, hE17⟩
     rw [show formB (m : Int) = formN m from by rw [formB, if_pos hir]; rfl]
     unfold formN
     repeat' split
     all_goals first | rfl | omega
    ·skip
     refine cw_seq ?_; refine cw_region ?_; refine wl_m ?_; refine wl_val rfl (ex_lss rfl rfl) ?_; refine wl_a ?_; refine wl_nil (nrm_then ?_); refine cw_if rfl (fun hc40 => ?_) (fun hc40 => ?_)
     ·skip
      refine cw_seq ?_; refine cw_region ?_; refine wl_m ?_
      refine wl_val rfl (ex_quoN (m := m) (n := 4096) rfl rfl (by omega) (by omega) (by omega) (by simp [IntKind.max, IntKind.signed, IntKind.bits]; omega)) ?_
      refine wl_val rfl (ex_add_i64 rfl rfl (by omega) (by omega)) ?_
      refine wl_val rfl (ex_convB (224 + m / 4096) rfl Tryz.underlying3 Tryz.underlying5 (by omega) (by simp [IntKind.max, IntKind.bits, IntKind.signed] <;> omega)) ?_
      refine wl_m ?_; refine wl_m ?_; refine wl_bslice (vs := [_, _, _]) rfl Tryz.slice83 rfl rfl rfl rfl fun b18 w19 hO20 hs21 hw22 => ?_; have hG23 := Ge.new hE3 hs21; have hE24 := hE3.then hw22
      have hT49 := own_bstr (ds := [224 + m / 4096, 128 + m / 64 % 64, 128 + m % 64]) hO20 rfl (by intro b hb; simp only [List.mem_cons, List.not_mem_nil, or_false] at hb; omega)
      refine wl_val rfl (ex_bstr rfl hT49 Tryz.underlying83 Tryz.underlying5 Tryz.underlying9) ?_; refine wl_a ?_; refine wl_nil (nrm_then ?_); refine cw_ret (ret_block (ret_then (body_ret1 rfl rfl ?_))); refine ⟨?_, hE24⟩
      rw [show formB (m : Int) = formN m from by rw [formB, if_pos hir]; rfl]
      unfold formN
      repeat' split
      all_goals first | rfl | omega
     ·skip
      refine cw_skip (nrm_block (nrm_then ?_)); refine cw_seq ?_; refine cw_region ?_; refine wl_m ?_
      refine wl_val rfl (ex_quoN (m := m) (n := 262144) rfl rfl (by omega) (by omega) (by omega) (by simp [IntKind.max, IntKind.signed, IntKind.bits]; omega)) ?_
      refine wl_val rfl (ex_add_i64 rfl rfl (by omega) (by omega)) ?_
      refine wl_val rfl (ex_convB (240 + m / 262144) rfl Tryz.underlying3 Tryz.underlying5 (by omega) (by simp [IntKind.max, IntKind.bits, IntKind.signed] <;> omega)) ?_
      refine wl_m ?_; refine wl_m ?_; refine wl_m ?_; refine wl_bslice (vs := [_, _, _, _]) rfl Tryz.slice83 rfl rfl rfl rfl fun b25 w26 hO27 hs28 hw29 => ?_; have hG30 := Ge.new hE3 hs28; have hE31 := hE3.then hw29
      have hT58 := own_bstr (ds := [240 + m / 262144, 128 + m / 4096 % 64, 128 + m / 64 % 64, 128 + m % 64]) hO27 rfl (by intro b hb; simp only [List.mem_cons, List.not_mem_nil, or_false] at hb; omega)
      refine wl_val rfl (ex_bstr rfl hT58 Tryz.underlying83 Tryz.underlying5 Tryz.underlying9) ?_; refine wl_a ?_; refine wl_nil (nrm_then ?_); refine cw_ret (body_ret1 rfl rfl ?_); refine ⟨?_, hE31⟩
      rw [show formB (m : Int) = formN m from by rw [formB, if_pos hir]; rfl]
      unfold formN
      repeat' split
      all_goals first | rfl | omega
theorem guess_ok {w : World} (s : ByteArray) (a k : Nat) (hk : 1 ≤ k) (hk4 : k ≤ 4) (hs : a + k ≤ s.size) (hl : s.size ≤ 140737488355328) : Calls Tryz.prog 169 #[.string s, .int .i64 (a : Nat), .int .i64 (k : Nat)] w (Ret fun v w' => v = .int .i64 (guessB s a k) ∧ Evo [] w w') := by
  have b0 := sb_lt s a; have b1 := sb_lt s (a + 1); have b2 := sb_lt s (a + 2); have b3 := sb_lt s (a + 3); refine calls_of_cw (N := 43) Tryz.func169 rfl rfl rfl ?_; refine cw_seq ?_; refine cw_region ?_; refine wl_a ?_; refine wl_nil (nrm_then ?_); refine cw_seq ?_; refine cw_region ?_; refine wl_m ?_; refine wl_m ?_; refine wl_val rfl (ex_sidx (n := a) rfl rfl Tryz.underlying9 rfl (by omega)) ?_
  refine wl_val rfl (ex_convB (sb s a) rfl Tryz.underlying5 Tryz.underlying3 (by omega) (by simp [IntKind.max, IntKind.bits, IntKind.signed] <;> omega)) ?_
  refine wl_a ?_; refine wl_nil (nrm_then ?_); refine cw_seq ?_; refine cw_seq ?_; refine cw_region ?_; refine wl_m ?_; refine wl_val rfl (ex_eql rfl rfl) ?_; refine wl_nil (nrm_then ?_); refine cw_if rfl (fun hc15 => ?_) (fun hc15 => ?_)
  ·skip
   refine cw_seq ?_; refine cw_region ?_; refine wl_m ?_; refine wl_a ?_; refine wl_nil (nrm_then ?_); refine cw_ret (ret_then (body_ret1 rfl rfl ?_))
   exact ⟨by unfold guessB; rw [if_pos (by omega)], (Evo.refl [] w)⟩
  ·skip
   refine cw_skip (nrm_then ?_); refine cw_seq ?_; refine cw_region ?_; refine wl_m ?_; refine wl_val rfl (ex_sub_i64 rfl rfl (by omega) (by omega)) ?_; refine wl_a ?_; refine wl_nil (nrm_then ?_); refine cw_seq ?_; refine cw_cut (α := Int) (fun x => [(8, .int .i64 x)]) [(0, _), (1, _), (2, _), (6, _), (7, _)] (fun x wr => Evo [] w wr ∧ (x = (sb s a : Int) - (if k = 3 then 224 else 192))) ⟨rfl, rfl, rfl, rfl, rfl, trivial⟩ ?_ ?_
   ·skip
    refine cw_seq ?_; refine cw_region ?_; refine wl_m ?_; refine wl_val rfl (ex_eql rfl rfl) ?_; refine wl_nil (nrm_then ?_); refine cw_if rfl (fun hc20 => ?_) (fun hc20 => ?_)
    ·skip
     refine cw_region ?_; refine wl_m ?_; refine wl_val rfl (ex_sub_i64 rfl rfl (by omega) (by omega)) ?_; refine wl_a ?_; refine wl_nil (nrm_same ?_); refine ⟨_, ⟨rfl, trivial⟩, ⟨rfl, rfl, rfl, rfl, rfl, trivial⟩, (Evo.refl [] w), ?_⟩
     split <;> omega
    ·skip
     refine cw_skip (nrm_same ?_); refine ⟨_, ⟨rfl, trivial⟩, ⟨rfl, rfl, rfl, rfl, rfl, trivial⟩, (Evo.refl [] w), ?_⟩
     split <;> omega
   ·skip
    rintro x1 w1 ⟨hV2, hx1⟩; refine nrm_then ?_; show CW _ _ _ _ [(8, _), (0, _), (1, _), (2, _), (6, _), (7, _)] _; have hE3 := (Evo.refl [] w).then hV2; refine cw_seq ?_; refine cw_cut (α := Int) (fun x => [(8, .int .i64 x)]) [(0, _), (1, _), (2, _), (6, _)] (fun x wr => Evo [] w1 wr ∧ (x = (sb s a : Int) - (if k = 4 then 240 else if k = 3 then 224 else 192))) ⟨rfl, rfl, rfl, rfl, trivial⟩ ?_ ?_
    ·skip
     refine cw_seq ?_; refine cw_region ?_; refine wl_m ?_; refine wl_val rfl (ex_eql rfl rfl) ?_; refine wl_nil (nrm_then ?_); refine cw_if rfl (fun hc24 => ?_) (fun hc24 => ?_)
     ·skip
      refine cw_region ?_; refine wl_m ?_; refine wl_val rfl (ex_sub_i64 rfl rfl (by omega) (by omega)) ?_; refine wl_a ?_; refine wl_nil (nrm_same ?_); refine ⟨_, ⟨rfl, trivial⟩, ⟨rfl, rfl, rfl, rfl, trivial⟩, (Evo.refl [] w1), ?_⟩
      repeat' split
      all_goals (try rw [hx1])
      all_goals (try split)
      all_goals omega
     ·skip
      refine cw_skip (nrm_same ?_); refine ⟨_, ⟨rfl, trivial⟩, ⟨rfl, rfl, rfl, rfl, trivial⟩, (Evo.refl [] w1), ?_⟩
      repeat' split
      all_goals (try rw [hx1])
      all_goals (try split)
      all_goals omega
    ·skip
     rintro x2 w4 ⟨hV5, hx2⟩; refine nrm_then ?_; show CW _ _ _ _ [(8, _), (0, _), (1, _), (2, _), (6, _)] _; have hE6 := hE3.then hV5; refine cw_seq ?_; refine cw_seq ?_; refine cw_region ?_; refine wl_a ?_; refine wl_nil (nrm_then ?_); refine cw_block ?_
     refine cw_loop (α := Nat × Int) ((1, x2)) (fun x => [(9, .int .i64 (x.1 : Nat)), (8, .int .i64 x.2)]) [(0, _), (1, _), (2, _), (6, _)] (fun x wr => Evo [] w4 wr ∧ (1 ≤ x.1 ∧ x.1 ≤ k ∧ (x.1 = 1 → x.2 = x2) ∧ (x.1 = 2 → x.2 = x2 * 64 + sb s (a + 1) - 128) ∧ (x.1 = 3 → x.2 = (x2 * 64 + sb s (a + 1) - 128) * 64 + sb s (a + 2) - 128) ∧ (x.1 = 4 → x.2 = ((x2 * 64 + sb s (a + 1) - 128) * 64 + sb s (a + 2) - 128) * 64 + sb s (a + 3) - 128))) (fun x => 4 - x.1) ⟨rfl, rfl, trivial⟩ ⟨rfl, rfl, rfl, rfl, trivial⟩ ⟨Evo.refl _ _, ⟨by simp, by simp; omega, by simp, by simp, by simp, by simp⟩⟩ ?_
     rintro ⟨j, g⟩ wr7 ⟨hV8, ⟨h1, h2, g1, g2, g3, g4⟩⟩; show CW _ _ _ _ [(9, .int .i64 (j : Nat)), (8, .int .i64 g), (0, _), (1, _), (2, _), (6, _)] _
     try dsimp only at h1
     try dsimp only at h2
     try dsimp only at g1
     try dsimp only at g2
     try dsimp only at g3
     try dsimp only at g4
     have hE9 := hE6.then hV8; refine cw_seq ?_; refine cw_seq ?_; refine cw_region ?_; refine wl_m ?_; refine wl_m ?_; refine wl_val rfl (ex_lss rfl rfl) ?_; refine wl_nil (nrm_then ?_); refine cw_if rfl (fun hc29 => ?_) (fun hc29 => ?_)
     ·skip
      refine cw_skip (nrm_then ?_); refine cw_seq ?_; refine cw_block ?_; refine cw_region ?_
      have hj' : j < 4 := by omega
      have bj := sb_lt s (a + j)
      have hxb : -240 ≤ x2 ∧ x2 ≤ 255 := by rw [hx2]; (repeat' split) <;> omega
      have hj3 : j = 1 ∨ j = 2 ∨ j = 3 := by omega
      have hgb : -1100000 ≤ g ∧ g ≤ 1100000 := by omega
      refine wl_m ?_; refine wl_val rfl (ex_mul_i64 rfl rfl (by omega) (by omega)) ?_; refine wl_m ?_; refine wl_m ?_; refine wl_m ?_; refine wl_val rfl (ex_add_i64 rfl rfl (by omega) (by omega)) ?_; refine wl_val rfl (ex_sidx (n := a + j) rfl rfl Tryz.underlying9 (by omega) (by omega)) ?_
      refine wl_val rfl (ex_convB (sb s (a + j)) rfl Tryz.underlying5 Tryz.underlying3 (by omega) (by simp [IntKind.max, IntKind.bits, IntKind.signed] <;> omega)) ?_
      refine wl_val rfl (ex_add_i64 rfl rfl (by omega) (by omega)) ?_; refine wl_val rfl (ex_sub_i64 rfl rfl (by omega) (by omega)) ?_; refine wl_a ?_; refine wl_nil (nrm_block (nrm_then ?_)); refine cw_region ?_; refine wl_m ?_; refine wl_val rfl (ex_add_i64 rfl rfl (by omega) (by omega)) ?_; refine wl_a ?_; refine wl_nil (nrm_same ?_); refine ⟨(j + 1, _), ?_, ⟨rfl, rfl, trivial⟩, ⟨rfl, rfl, rfl, rfl, trivial⟩, hV8, ?_⟩
      · (try dsimp only); omega
      ·skip
       try dsimp only
       refine ⟨by omega, by omega, fun h => by omega, fun h => ?_, fun h => ?_, fun h => ?_⟩
       · obtain rfl : j = 1 := by omega
         have := g1 rfl; omega
       · obtain rfl : j = 2 := by omega
         have := g2 rfl; omega
       · obtain rfl : j = 3 := by omega
         have := g3 rfl; omega
     ·skip
      refine cw_exit (ex_then (ex_then (ex_here (nrm_then ?_)))); refine cw_seq ?_; refine cw_region ?_; refine wl_m ?_; refine wl_a ?_; refine wl_nil (nrm_then ?_); refine cw_ret (body_ret1 rfl rfl ?_); refine ⟨?_, hE9⟩
      obtain rfl : j = k := by omega
      congr 1
      unfold guessB
      repeat' split at hx2
      all_goals (repeat' split)
      all_goals omega
theorem refNext_ok {w : World} (s : ByteArray) (a : Nat) (ha : a ≤ s.size) (hl : s.size ≤ 140737488355328) : Calls Tryz.prog 137 #[.string s, .int .i64 (a : Nat)] w (Ret fun v w' => v = .tuple #[.int .i32 (nextR s a).1, .int .i64 ((nextR s a).2 : Nat)] ∧ Evo [] w w') := by
  refine calls_of_cw (N := 52) Tryz.func137 rfl rfl rfl ?_; refine cw_seq ?_; refine cw_region ?_; refine wl_a ?_; refine wl_a ?_; refine wl_nil (nrm_then ?_); refine cw_seq ?_; refine cw_seq ?_; refine cw_region ?_; refine wl_m ?_; refine wl_val rfl (ex_lss rfl rfl) ?_; refine wl_m ?_; refine wl_split (t := 11) rfl (fun hs11 => ?_) (fun hs11 => ?_)
  ·skip
   refine wl_n ?_; refine wl_n ?_; refine wl_n ?_; refine wl_n ?_; refine wl_pt ?_; refine wl_nil (nrm_then ?_); refine cw_true rfl ?_; refine cw_seq ?_; refine cw_region ?_; refine wl_a ?_; refine wl_a ?_; refine wl_nil (nrm_then ?_); refine cw_ret (ret_then (body_ret2 rfl rfl rfl ?_))
   exfalso; omega
  ·skip
   refine wl_g ?_; refine wl_m ?_; refine wl_g ?_; refine wl_m ?_; refine wl_g ?_; refine wl_val rfl (ex_len_str rfl Tryz.underlying9 rfl) ?_; refine wl_g ?_; refine wl_val rfl (ex_geq rfl rfl) ?_; refine wl_pf ?_; refine wl_nil (nrm_then ?_); refine cw_if rfl (fun hc16 => ?_) (fun hc16 => ?_)
   ·skip
    refine cw_seq ?_; refine cw_region ?_; refine wl_a ?_; refine wl_a ?_; refine wl_nil (nrm_then ?_); refine cw_ret (ret_then (body_ret2 rfl rfl rfl ?_))
    exact ⟨by rw [next_out (by omega)]; rfl, (Evo.refl [] w)⟩
   ·skip
    refine cw_skip (nrm_then ?_); refine cw_seq ?_; refine cw_seq ?_; refine cw_region ?_; refine wl_a ?_; refine wl_nil (nrm_then ?_); refine cw_block ?_; refine cw_loop (α := Nat) (1) (fun k => [(6, .int .i64 (k : Nat))]) [(0, _), (1, _)] (fun k wr => Evo [] w wr ∧ (1 ≤ k ∧ k ≤ 5 ∧ ∀ w, 1 ≤ w → w < k → a + w ≤ s.size → ¬ Hit s a w)) (fun k => 5 - k) ⟨rfl, trivial⟩ ⟨rfl, rfl, trivial⟩ ⟨Evo.refl _ _, ⟨by omega, by omega, fun w h1 h2 => by omega⟩⟩ ?_; rintro k wr1 ⟨hV2, ⟨h1, h2, hno⟩⟩; show CW _ _ _ _ [(6, _), (0, _), (1, _)] _; have hE3 := (Evo.refl [] w).then hV2; refine cw_seq ?_; refine cw_seq ?_; refine cw_region ?_; refine wl_m ?_; refine wl_val rfl (ex_leq rfl rfl) ?_; refine wl_m ?_; refine wl_split (t := 19) rfl (fun hs19 => ?_) (fun hs19 => ?_)
    ·skip
     refine wl_g ?_; refine wl_m ?_; refine wl_g ?_; refine wl_m ?_; refine wl_g ?_; refine wl_val rfl (ex_len_str rfl Tryz.underlying9 rfl) ?_; refine wl_g ?_; refine wl_m ?_; refine wl_g ?_; refine wl_val rfl (ex_sub_i64 rfl rfl (by omega) (by omega)) ?_; refine wl_g ?_; refine wl_val rfl (ex_leq rfl rfl) ?_; refine wl_pt ?_; refine wl_nil (nrm_then ?_); refine cw_if rfl (fun hc26 => ?_) (fun hc26 => ?_)
     ·skip
      refine cw_skip (nrm_then ?_); refine cw_seq ?_; refine cw_block ?_; refine cw_seq ?_; refine cw_region ?_; refine wl_m ?_; refine wl_m ?_; refine wl_m ?_; refine wl_call1 (vs := [_, _, _]) Tryz.goes169 rfl (guess_ok s a k (by omega) (by omega) (by omega) hl) rfl ?_; rintro _ w4 ⟨rfl, hw5⟩; have hE6 := hE3.then hw5; have hE7 := hV2.then hw5
      have hgb : -9223372036854775808 ≤ guessB s a k ∧ guessB s a k ≤ 9223372036854775807 := by have := guess_bound s a k; omega
      refine wl_a ?_; refine wl_nil (nrm_then ?_); refine cw_seq ?_; refine cw_region ?_; refine wl_m ?_; refine wl_call1 (vs := [_]) Tryz.goes91 rfl (form_ok _ hgb.1 hgb.2) rfl ?_; rintro _ w8 ⟨rfl, hw9⟩; have hE10 := hE6.then hw9; have hE11 := hE7.then hw9; refine wl_a ?_; refine wl_nil (nrm_then ?_); refine cw_seq ?_; refine cw_region ?_; refine wl_m ?_; refine wl_val rfl (ex_len_str rfl Tryz.underlying9 rfl) ?_; refine wl_m ?_; refine wl_val rfl (ex_eql rfl rfl) ?_; refine wl_m ?_; refine wl_split (t := 39) rfl (fun hs39 => ?_) (fun hs39 => ?_)
      ·skip
       refine wl_g ?_; refine wl_m ?_; refine wl_g ?_; refine wl_m ?_; refine wl_g ?_; refine wl_m ?_; refine wl_g ?_; refine wl_m ?_; refine wl_g ?_; refine wl_val rfl (ex_add_i64 rfl rfl (by omega) (by omega)) ?_; refine wl_g ?_; refine wl_val rfl (ex_ssub (l := a) (h := a + k) rfl rfl rfl Tryz.underlying9 rfl (by omega) (by omega) (by omega)) ?_; refine wl_g ?_; refine wl_m ?_; refine wl_g ?_; refine wl_val rfl (ex_eqs rfl rfl) ?_; refine wl_pt ?_; refine wl_nil (nrm_then ?_); refine cw_if rfl (fun hc48 => ?_) (fun hc48 => ?_)
       ·skip
        have hit : Hit s a k := (hit_eq (by omega)).2 (by assumption); have hn := next_hit (by omega) (by omega) (by omega) hit; refine cw_seq ?_; refine cw_region ?_; refine wl_m ?_
        refine wl_val rfl (ex_convF rfl Tryz.underlying3 Tryz.underlying21 (by simp [IntKind.min, IntKind.signed, IntKind.bits]; omega) (by simp [IntKind.max, IntKind.signed, IntKind.bits]; omega)) ?_
        refine wl_m ?_; refine wl_a ?_; refine wl_a ?_; refine wl_nil (nrm_then ?_); refine cw_ret (ret_block (ret_then (ret_then (ret_block (ret_then (body_ret2 rfl rfl rfl ?_)))))); exact ⟨by rw [hn.1], hE10⟩
       ·skip
        refine cw_skip (nrm_block (nrm_then ?_)); refine cw_region ?_; refine wl_m ?_; refine wl_val rfl (ex_add_i64 rfl rfl (by omega) (by omega)) ?_; refine wl_a ?_; refine wl_nil (nrm_same ?_); refine ⟨k + 1, ?_, ⟨rfl, trivial⟩, ⟨rfl, rfl, trivial⟩, hE11, ?_⟩
        · omega
        ·skip
         refine ⟨by omega, by omega, fun w h3 h4 h5 => ?_⟩
         by_cases hw : w < k
         · exact hno w h3 hw h5
         · obtain rfl : w = k := by omega
           intro hit
           first | exact hc48 ((hit_eq (by omega)).1 hit) | exact hs39 (by rw [bstr_size, hit_len hit])
      ·skip
       refine wl_n ?_; refine wl_n ?_; refine wl_n ?_; refine wl_n ?_; refine wl_n ?_; refine wl_n ?_; refine wl_n ?_; refine wl_n ?_; refine wl_pf ?_; refine wl_nil (nrm_then ?_); refine cw_false rfl ?_; refine cw_skip (nrm_block (nrm_then ?_)); refine cw_region ?_; refine wl_m ?_; refine wl_val rfl (ex_add_i64 rfl rfl (by omega) (by omega)) ?_; refine wl_a ?_; refine wl_nil (nrm_same ?_); refine ⟨k + 1, ?_, ⟨rfl, trivial⟩, ⟨rfl, rfl, trivial⟩, hE11, ?_⟩
       · omega
       ·skip
        refine ⟨by omega, by omega, fun w h3 h4 h5 => ?_⟩
        by_cases hw : w < k
        · exact hno w h3 hw h5
        · obtain rfl : w = k := by omega
          intro hit
          first | exact hc48 ((hit_eq (by omega)).1 hit) | exact hs39 (by rw [bstr_size, hit_len hit])
     ·skip
      refine cw_exit (ex_then (ex_then (ex_here (nrm_then ?_)))); refine cw_seq ?_; refine cw_region ?_; refine wl_a ?_; refine wl_a ?_; refine wl_nil (nrm_then ?_); refine cw_ret (body_ret2 rfl rfl rfl ?_)
      exact ⟨by rw [next_none fun w h3 h4 h5 => hno w h3 (by omega) h5]; rfl, hE3⟩
    ·skip
     refine wl_n ?_; refine wl_n ?_; refine wl_n ?_; refine wl_n ?_; refine wl_n ?_; refine wl_n ?_; refine wl_pf ?_; refine wl_nil (nrm_then ?_); refine cw_false rfl ?_; refine cw_exit (ex_then (ex_then (ex_here (nrm_then ?_)))); refine cw_seq ?_; refine cw_region ?_; refine wl_a ?_; refine wl_a ?_; refine wl_nil (nrm_then ?_); refine cw_ret (body_ret2 rfl rfl rfl ?_)
     exact ⟨by rw [next_none fun w h3 h4 h5 => hno w h3 (by omega) h5]; rfl, hE3⟩
theorem width_ok {w : World} (r : Int) : Calls Tryz.prog 148 #[.int .i32 r] w (Ret fun v w' => v = .int .i64 (if r < 128 then 1 else if r < 2048 then 2 else if r < 65536 then 3 else 4) ∧ Evo [] w w') := by
  refine calls_of_cw (N := 12) Tryz.func148 rfl rfl rfl ?_; refine cw_seq ?_; refine cw_region ?_; refine wl_a ?_; refine wl_nil (nrm_then ?_); refine cw_seq ?_; refine cw_block ?_; refine cw_seq ?_; refine cw_region ?_; refine wl_m ?_; refine wl_val rfl (ex_lss rfl rfl) ?_; refine wl_a ?_; refine wl_nil (nrm_then ?_); refine cw_if rfl (fun hc3 => ?_) (fun hc3 => ?_)
  ·skip
   refine cw_seq ?_; refine cw_region ?_; refine wl_a ?_; refine wl_nil (nrm_then ?_); refine cw_ret (ret_block (ret_then (body_ret1 rfl rfl ?_)))
   exact ⟨by congr 1; (repeat' split) <;> omega, (Evo.refl [] w)⟩
  ·skip
   refine cw_seq ?_; refine cw_region ?_; refine wl_m ?_; refine wl_val rfl (ex_lss rfl rfl) ?_; refine wl_a ?_; refine wl_nil (nrm_then ?_); refine cw_if rfl (fun hc6 => ?_) (fun hc6 => ?_)
   ·skip
    refine cw_seq ?_; refine cw_region ?_; refine wl_a ?_; refine wl_nil (nrm_then ?_); refine cw_ret (ret_block (ret_then (body_ret1 rfl rfl ?_)))
    exact ⟨by congr 1; (repeat' split) <;> omega, (Evo.refl [] w)⟩
   ·skip
    refine cw_seq ?_; refine cw_region ?_; refine wl_m ?_; refine wl_val rfl (ex_lss rfl rfl) ?_; refine wl_a ?_; refine wl_nil (nrm_then ?_); refine cw_if rfl (fun hc9 => ?_) (fun hc9 => ?_)
    ·skip
     refine cw_seq ?_; refine cw_region ?_; refine wl_a ?_; refine wl_nil (nrm_then ?_); refine cw_ret (ret_block (ret_then (body_ret1 rfl rfl ?_)))
     exact ⟨by congr 1; (repeat' split) <;> omega, (Evo.refl [] w)⟩
    ·skip
     refine cw_skip (nrm_block (nrm_then ?_)); refine cw_seq ?_; refine cw_region ?_; refine wl_a ?_; refine wl_nil (nrm_then ?_); refine cw_ret (body_ret1 rfl rfl ?_)
     exact ⟨by congr 1; (repeat' split) <;> omega, (Evo.refl [] w)⟩
theorem replaced_ok {w : World} (s : ByteArray) (a : Nat) (ha : a ≤ s.size) (hl : s.size ≤ 140737488355328) : Calls Tryz.prog 54 #[.string s, .int .i64 (a : Nat)] w (Ret fun v w' => v = .bool (decide (a + 3 ≤ s.size ∧ s.extract a (a + 3) = bstr [239, 191, 189])) ∧ Evo [] w w') := by
  refine calls_of_cw (N := 18) Tryz.func54 rfl rfl rfl ?_; refine cw_seq ?_; refine cw_region ?_; refine wl_a ?_; refine wl_nil (nrm_then ?_); refine cw_seq ?_; refine cw_region ?_; refine wl_m ?_; refine wl_val rfl (ex_add_i64 rfl rfl (by omega) (by omega)) ?_; refine wl_m ?_; refine wl_val rfl (ex_len_str rfl Tryz.underlying9 rfl) ?_; refine wl_val rfl (ex_leq rfl rfl) ?_; refine wl_m ?_; refine wl_split (t := 10) rfl (fun hs10 => ?_) (fun hs10 => ?_)
  ·skip
   refine wl_g ?_; refine wl_m ?_; refine wl_g ?_; refine wl_m ?_; refine wl_g ?_; refine wl_m ?_; refine wl_g ?_; refine wl_val rfl (ex_add_i64 rfl rfl (by omega) (by omega)) ?_; refine wl_g ?_; refine wl_val rfl (ex_ssub (l := a) (h := a + 3) rfl rfl rfl Tryz.underlying9 rfl (by omega) (by omega) (by omega)) ?_; refine wl_g ?_; refine wl_val rfl (ex_eqs rfl rfl) ?_; refine wl_pt ?_; refine wl_a ?_; refine wl_nil (nrm_then ?_); refine cw_ret (body_ret1 rfl rfl ?_); refine ⟨congrArg Value.bool (decide_eq_decide.2 ?_), (Evo.refl [] w)⟩; constructor
   · exact fun h => ⟨by omega, h⟩
   · exact fun h => h.2
  ·skip
   refine wl_n ?_; refine wl_n ?_; refine wl_n ?_; refine wl_n ?_; refine wl_n ?_; refine wl_n ?_; refine wl_pf ?_; refine wl_a ?_; refine wl_nil (nrm_then ?_); refine cw_ret (body_ret1 rfl rfl ?_); exact ⟨congrArg Value.bool (decide_eq_false (by omega)).symm, (Evo.refl [] w)⟩
theorem nextR_bad {s : ByteArray} {a : Nat} (ha : a < s.size) (h : (Utf8.decode s a).1 = 65533) (hr : ¬ (a + 3 ≤ s.size ∧ s.extract a (a + 3) = bstr [239, 191, 189])) : nextR s a = (-1, 0) := by
  have h1 := decode_fffd s a h ha
  have h2 := decode_repl s a h ha
  unfold nextR
  rw [if_neg]
  rintro ⟨_, h3⟩
  rcases h1 with h1 | h1
  · exact h3 ⟨h, h1⟩
  · exact hr (h2.1 h1)
theorem nextR_good {s : ByteArray} {a : Nat} (ha : a < s.size) (h : ¬ (Utf8.decode s a).1 = 65533 ∨ (a + 3 ≤ s.size ∧ s.extract a (a + 3) = bstr [239, 191, 189])) :
    (nextR s a).1 = ((Utf8.decode s a).1 : Nat) ∧ (((nextR s a).2 : Nat) : Int) = if ((Utf8.decode s a).1 : Int) < 128 then 1 else if ((Utf8.decode s a).1 : Int) < 2048 then 2 else if ((Utf8.decode s a).1 : Int) < 65536 then 3 else 4 := by
  have hn : ¬ ((Utf8.decode s a).1 = 65533 ∧ (Utf8.decode s a).2 = 1) := fun ⟨h1, h2⟩ => by
    rcases h with h | h
    · exact h h1
    · rw [(decode_repl s a h1 ha).2 h] at h2; cases h2
  have hw := decode_width s a ha hn
  unfold nextR
  rw [if_pos ⟨ha, hn⟩]
  refine ⟨rfl, ?_⟩
  simp only
  rw [hw]
  repeat' split
  all_goals first | rfl | omega
theorem next_ok {w : World} (s : ByteArray) (a : Nat) (ha : a ≤ s.size) (hl : s.size ≤ 140737488355328) : Calls Tryz.prog 103 #[.string s, .int .i64 (a : Nat)] w (Ret fun v w' => v = .tuple #[.int .i32 (nextR s a).1, .int .i64 ((nextR s a).2 : Nat)] ∧ Evo [] w w') := by
  refine calls_of_cw (N := 44) Tryz.func103 rfl rfl rfl ?_; refine cw_seq ?_; refine cw_region ?_; refine wl_a ?_; refine wl_a ?_; refine wl_nil (nrm_then ?_); refine cw_seq ?_; refine cw_seq ?_; refine cw_region ?_; refine wl_m ?_; refine wl_val rfl (ex_lss rfl rfl) ?_; refine wl_m ?_; refine wl_split (t := 10) rfl (fun hs10 => ?_) (fun hs10 => ?_)
  ·skip
   refine wl_n ?_; refine wl_n ?_; refine wl_n ?_; refine wl_n ?_; refine wl_pt ?_; refine wl_nil (nrm_then ?_); refine cw_true rfl ?_; refine cw_seq ?_; refine cw_region ?_; refine wl_a ?_; refine wl_a ?_; refine wl_nil (nrm_then ?_); refine cw_ret (ret_then (body_ret2 rfl rfl rfl ?_))
   exfalso; omega
  ·skip
   refine wl_g ?_; refine wl_m ?_; refine wl_g ?_; refine wl_m ?_; refine wl_g ?_; refine wl_val rfl (ex_len_str rfl Tryz.underlying9 rfl) ?_; refine wl_g ?_; refine wl_val rfl (ex_geq rfl rfl) ?_; refine wl_pf ?_; refine wl_nil (nrm_then ?_); refine cw_if rfl (fun hc15 => ?_) (fun hc15 => ?_)
   ·skip
    refine cw_seq ?_; refine cw_region ?_; refine wl_a ?_; refine wl_a ?_; refine wl_nil (nrm_then ?_); refine cw_ret (ret_then (body_ret2 rfl rfl rfl ?_))
    exact ⟨by rw [next_out (by omega)]; rfl, (Evo.refl [] w)⟩
   ·skip
    refine cw_skip (nrm_then ?_); refine cw_seq ?_; refine cw_seq ?_; refine cw_region ?_
    have hlt : a < s.size := by omega
    refine wl_m ?_; refine wl_m ?_; refine wl_m ?_; refine wl_val rfl (ex_len_str rfl Tryz.underlying9 rfl) ?_; refine wl_m ?_; refine wl_val rfl (ex_add_i64 rfl rfl (by omega) (by omega)) ?_; refine wl_val rfl (ex_min rfl rfl) ?_
    refine wl_val rfl (ex_ssub (l := a) (h := min s.size (a + 4)) rfl rfl rfl Tryz.underlying9 rfl (by split <;> omega) (by omega) (by omega)) ?_
    refine wl_rangeS rfl rfl Tryz.underlying9 fun b1 w2 hB3 hs4 hw5 => ?_; have hG6 := Ge.new (Evo.refl [] w) hs4; have hE7 := (Evo.refl [] w).then hw5; refine wl_nil (nrm_then ?_); refine cw_block ?_; refine cw_loop (α := Nat) (0) (fun k => []) [(0, _), (1, _), (24, _)] (fun k wr => Evo [] w2 wr ∧ (True)) (fun k => 0) trivial ⟨rfl, rfl, rfl, trivial⟩ ⟨Evo.refl _ _, trivial⟩ ?_; rintro k wr8 ⟨hV9, _⟩; show CW _ _ _ _ [(0, _), (1, _), (24, _)] _; have hE10 := hE7.then hV9; have hB11 := hV9.blk0 hB3; refine cw_seq ?_; refine cw_region ?_
    refine wl_nextS rfl rfl hB11 (by simp; omega) fun w12 hB13 hw14 => ?_
    have hE15 := hE10.step hw14 hG6.mem1; have hcut := decode_cut s a hlt; refine wl_val rfl (ex_extract rfl rfl) ?_; refine wl_nil (nrm_then ?_); refine cw_seq ?_; refine cw_true rfl ?_; refine cw_skip (nrm_then ?_); refine cw_block ?_; refine cw_seq ?_; refine cw_region ?_; refine wl_val rfl (ex_extract rfl rfl) ?_; refine wl_val rfl (ex_extract rfl rfl) ?_; refine wl_a ?_; refine wl_a ?_; refine wl_nil (nrm_then ?_); refine cw_seq ?_; refine cw_seq ?_; refine cw_region ?_; refine wl_m ?_; refine wl_val rfl (ex_gtr rfl rfl) ?_; refine wl_m ?_; refine wl_split (t := 31) rfl (fun hs31 => ?_) (fun hs31 => ?_)
    ·skip
     refine wl_n ?_; refine wl_n ?_; refine wl_n ?_; refine wl_u ?_; refine wl_u ?_; refine wl_u ?_; refine wl_u ?_; refine wl_n ?_; refine wl_pt ?_; refine wl_nil (nrm_then ?_); refine cw_true rfl ?_; refine cw_exit (ex_then (ex_past rfl (ex_then (ex_here (nrm_then ?_))))); refine cw_seq ?_; refine cw_region ?_; refine wl_a ?_; refine wl_a ?_; refine wl_nil (nrm_then ?_); refine cw_ret (body_ret2 rfl rfl rfl ?_)
     exfalso; omega
    ·skip
     refine wl_g ?_; refine wl_m ?_; refine wl_g ?_; refine wl_val rfl (ex_eql rfl rfl) ?_; refine wl_g ?_; refine wl_m ?_; refine wl_split (t := 34) rfl (fun hs34 => ?_) (fun hs34 => ?_)
     ·skip
      refine wl_g ?_; refine wl_m ?_; refine wl_g ?_; refine wl_m ?_; refine wl_g ?_; refine wl_call1 (vs := [_, _]) Tryz.goes54 rfl (replaced_ok s a (by omega) hl) rfl ?_; rintro _ w17 ⟨rfl, hw18⟩; have hE19 := hE15.then hw18; have hB20 := hw18.blk0 hB13; refine wl_g ?_; refine wl_val rfl (ex_not rfl) ?_; refine wl_g ?_; refine wl_pt ?_; refine wl_pf ?_; refine wl_nil (nrm_then ?_); refine cw_if rfl (fun hc40 => ?_) (fun hc40 => ?_)
      ·skip
       refine cw_exit (ex_then (ex_past rfl (ex_then (ex_here (nrm_then ?_))))); refine cw_seq ?_; refine cw_region ?_; refine wl_a ?_; refine wl_a ?_; refine wl_nil (nrm_then ?_); refine cw_ret (body_ret2 rfl rfl rfl ?_); rw [hcut] at hs34
       exact ⟨by rw [nextR_bad hlt (by omega) hc40]; rfl, hE19⟩
      ·skip
       refine cw_skip (nrm_then ?_); refine cw_seq ?_; refine cw_region ?_; refine wl_m ?_; refine wl_m ?_; refine wl_call1 (vs := [_]) Tryz.goes148 rfl (width_ok _) rfl ?_; rintro _ w21 ⟨rfl, hw22⟩; have hE23 := hE19.then hw22; have hB24 := hw22.blk0 hB20; refine wl_a ?_; refine wl_a ?_; refine wl_nil (nrm_then ?_); refine cw_ret (ret_block (ret_then (ret_block (ret_then (body_ret2 rfl rfl rfl ?_))))); rw [hcut] at hs34 ⊢; have hg := nextR_good hlt (.inr (Decidable.not_not.1 hc40))
       exact ⟨by rw [hg.1, hg.2]; rfl, hE23⟩
     ·skip
      refine wl_n ?_; refine wl_n ?_; refine wl_n ?_; refine wl_n ?_; refine wl_g ?_; refine wl_pf ?_; refine wl_pf ?_; refine wl_nil (nrm_then ?_); refine cw_false rfl ?_; refine cw_skip (nrm_then ?_); refine cw_seq ?_; refine cw_region ?_; refine wl_m ?_; refine wl_m ?_; refine wl_call1 (vs := [_]) Tryz.goes148 rfl (width_ok _) rfl ?_; rintro _ w25 ⟨rfl, hw26⟩; have hE27 := hE15.then hw26; have hB28 := hw26.blk0 hB13; refine wl_a ?_; refine wl_a ?_; refine wl_nil (nrm_then ?_); refine cw_ret (ret_block (ret_then (ret_block (ret_then (body_ret2 rfl rfl rfl ?_))))); rw [hcut] at hs34 ⊢; have hg := nextR_good hlt (.inl (by omega))
      exact ⟨by rw [hg.1, hg.2]; rfl, hE27⟩
end Go.Proofs.YtgnpldackjbdjaaGreat
namespace Go.Proofs.YtgnpldackjbdjaaGreat
open Go.Proofs
open Go.W Go.RowKit
attribute [local irreducible] Decidable.decide
set_option linter.unusedSimpArgs false
set_option linter.unusedVariables false
theorem Tryz.fld141_0 : fieldB Tryz.prog 141 0 = some 0 := by kernel_rfl
theorem Tryz.goes82 : Goes Tryz.prog 82 := ⟨_, Tryz.func82, by kernel_rfl, by kernel_rfl⟩
theorem Tryz.goes129 : Goes Tryz.prog 129 := ⟨_, Tryz.func129, by kernel_rfl, by kernel_rfl⟩
theorem Tryz.goes130 : Goes Tryz.prog 130 := ⟨_, Tryz.func130, by kernel_rfl, by kernel_rfl⟩
def StOk (st : St) : Prop := st.2.length ≤ st.1 ∧ st.1 ≤ 8194
theorem RRx.get {n : Nat} {X : List Nat} {w : World} {vs : List Value} {x : Rx} (h : RRx n X w vs x) : ∃ m ra rc ka kc, n = m + 1 ∧ vs = [iv x.kind, .int .i32 x.r, .slice ra x.ranges.length rc, iv x.min, iv x.max, .bool x.lazy, iv x.cap, .string x.name, .slice ka x.kids.length kc] ∧
    RSl 2 RRg X w (.slice ra x.ranges.length rc) x.ranges ∧ RSl 9 (RRx m) X w (.slice ka x.kids.length kc) x.kids ∧ x.ranges.length ≤ 140737488351232 ∧ x.name.size ≤ 140737488351232 ∧ x.kids.length ≤ 140737488351232 := by
  cases n with
  | zero => exact h.elim
  | succ n =>
    obtain ⟨vr, vk, h1, ⟨ra, rc, rfl, h2⟩, ⟨ka, kc, rfl, h3⟩, h4⟩ := h
    exact ⟨n, ra, rc, ka, kc, rfl, h1, ⟨ra, rc, rfl, h2⟩, ⟨ka, kc, rfl, h3⟩, h4⟩
set_option maxHeartbeats 4000000 in
theorem fine_step {n : Nat} (ih : ∀ (w : World) (jb : Nat) (st : St) (a : Option Addr) (c : Nat) (ob : Option Nat) (vs : List Value) (t : Rx) (b : Int), JAt w 141 jb st a c ob → RRx n (jb :: ob.toList) w vs t → StOk st → 0 ≤ b → b ≤ 251 →
      Calls Tryz.prog 82 #[.pointer (some ⟨jb, 0, none⟩), .agg vs.toArray, .int .i64 b] w (Ret fun v w' => ∃ r, v = .bool r ∧ r = (t.fine b st).isSome ∧ Evo (jb :: ob.toList) w w' ∧ ∀ st', t.fine b st = some st' → StOk st' ∧ ∃ a' c' ob', JAt w' 141 jb st' a' c' ob' ∧ ∀ g, ob' = some g → g ∈ ob.toList ∨ w.heap.size ≤ g))
    {w : World} {jb : Nat} {st : St} {a : Option Addr} {c : Nat} {ob : Option Nat} {vs : List Value} {t : Rx} {b : Int} (hJ : JAt w 141 jb st a c ob) (hx : RRx (n + 1) (jb :: ob.toList) w vs t) (hst : StOk st) (hb0 : 0 ≤ b) (hb1 : b ≤ 251) :
      Calls Tryz.prog 82 #[.pointer (some ⟨jb, 0, none⟩), .agg vs.toArray, .int .i64 b] w (Ret fun v w' => ∃ r, v = .bool r ∧ r = (t.fine b st).isSome ∧ Evo (jb :: ob.toList) w w' ∧ ∀ st', t.fine b st = some st' → StOk st' ∧ ∃ a' c' ob', JAt w' 141 jb st' a' c' ob' ∧ ∀ g, ob' = some g → g ∈ ob.toList ∨ w.heap.size ≤ g) := by
  obtain ⟨hB, hO, hne⟩ := hJ
  have hAJN : Apart (some jb) ob := fun g h1 h2 => by cases h1; exact hne jb h2 rfl
  have hlt := blk_lt hB; have hst1 := hst.1; have hst2 := hst.2
  have hXlt : ∀ y, y ∈ jb :: ob.toList → y < w.heap.size := fun y hy => by
    rcases List.mem_cons.1 hy with h | h
    · rw [h]; exact hlt
    · have : ob = some y := by simpa using h
      subst this; exact hO.lt
  have hx0 := hx; obtain ⟨m, ra, rc, ka, kc, hm, rfl, hrg, hk, bl1, bl2, bl3⟩ := hx.get
  obtain rfl : m = n := by omega
  obtain ⟨_, _, hke, hkc, e1⟩ := hk; cases hke; refine calls_of_cw (N := 57) Tryz.func82 rfl rfl rfl ?_; refine cw_seq ?_; refine cw_region ?_; refine wl_boxA rfl rfl fun b4 w1 hB2 hs3 hw4 => ?_; have hsz_b4 := hs3; have hA5 := Apart.new (Lt.blk hB) hs3; have hA6 := Apart.new (Lt.own hO) hs3; have hG7 := Ge.new (Evo.refl (jb :: ob.toList) w) hs3; have hE8 := (Evo.refl (jb :: ob.toList) w).then hw4; have hB9 := hw4.blk0 hB; have hO10 := hO.evo0 hw4; refine wl_a ?_; refine wl_nil (nrm_then ?_); refine cw_seq ?_; refine cw_region ?_; refine wl_m ?_; refine wl_val rfl (ex_nilCheck rfl) ?_; refine wl_val rfl (ex_fieldAddr rfl Tryz.fld141_0) ?_; refine wl_val rfl (ex_load1 rfl Tryz.agg3 (cell_nth hB9 rfl)) ?_; refine wl_val rfl (ex_add_i64 rfl rfl (by omega) (by omega)) ?_; refine wl_val rfl (ex_nilCheck rfl) ?_; refine wl_val rfl (ex_fieldAddr rfl Tryz.fld141_0) ?_; refine wl_store1 rfl rfl (by first | rfl | assumption) Tryz.size3 hB9 rfl fun w11 hB12 hw13 => ?_
  have hE14 := hE8.step hw13 (fun y hy => .inl (by rw [List.mem_singleton.1 hy]; exact List.mem_cons_self ..))
  have hO15 := hO10.evo hw13 hAJN.symm.own1; have hB16 := hw13.blk hB2 hA5.symm.nmem1
  try simp only [List.setIfInBounds_toArray, List.set_cons_zero, List.set_cons_succ, Nat.reduceAdd, Nat.zero_add, Nat.add_zero] at hB12
  refine wl_nil (nrm_then ?_); refine cw_seq ?_; refine cw_cut (α := Int) (fun z => [(2, .int .i64 z)]) [(0, _), (4, _), (6, _)] (fun z wr => Evo [] w11 wr ∧ (z = if t.kind = 7 then b + 1 else b)) ⟨rfl, rfl, rfl, trivial⟩ ?_ ?_
  ·skip
   refine cw_seq ?_; refine cw_region ?_; refine wl_val rfl (ex_fieldAddr rfl Tryz.fld25_0) ?_; refine wl_val rfl (ex_load1 rfl Tryz.agg3 (cell_nth hB16 rfl)) ?_; refine wl_val rfl (ex_eql rfl rfl) ?_; refine wl_nil (nrm_then ?_); refine cw_if rfl (fun hc19 => ?_) (fun hc19 => ?_)
   ·skip
    refine cw_region ?_; refine wl_m ?_; refine wl_val rfl (ex_add_i64 rfl rfl (by omega) (by omega)) ?_; refine wl_a ?_; refine wl_nil (nrm_same ?_); refine ⟨(b + 1), ⟨rfl, trivial⟩, ⟨rfl, rfl, rfl, trivial⟩, (Evo.refl [] w11), ?_⟩; rw [if_pos (by assumption)]
   ·skip
    refine cw_skip (nrm_same ?_); refine ⟨b, ⟨rfl, trivial⟩, ⟨rfl, rfl, rfl, trivial⟩, (Evo.refl [] w11), ?_⟩; rw [if_neg (by assumption)]
  ·skip
   rintro z w17 ⟨hV18, hz⟩; refine nrm_then ?_; show CW _ _ _ _ [(2, _), (0, _), (4, _), (6, _)] _; have hE19 := hE14.then hV18; have hB20 := hV18.blk0 hB12; have hO21 := hO15.evo0 hV18; have hB22 := hV18.blk0 hB16; refine cw_seq ?_; refine cw_seq ?_; refine cw_region ?_; refine wl_m ?_; refine wl_val rfl (ex_nilCheck rfl) ?_; refine wl_val rfl (ex_fieldAddr rfl Tryz.fld141_0) ?_; refine wl_val rfl (ex_load1 rfl Tryz.agg3 (cell_nth hB20 rfl)) ?_; refine wl_val rfl (ex_gtr rfl rfl) ?_; refine wl_m ?_; refine wl_split (t := 27) rfl (fun hs27 => ?_) (fun hs27 => ?_)
   ·skip
    refine wl_n ?_; refine wl_n ?_; refine wl_pt ?_; refine wl_m ?_; refine wl_n ?_; refine wl_n ?_; have hlt4 := Lt.blk hB22; have hszc := (hE19).size; refine wl_n ?_; refine wl_n ?_; refine wl_pt ?_; refine wl_nil (nrm_then ?_); refine cw_true rfl ?_; refine cw_seq ?_; refine cw_region ?_; refine wl_a ?_; refine wl_nil (nrm_then ?_); refine cw_ret (ret_then (body_ret1 rfl rfl ?_))
    have hno := fine_no (x := t) (b := b) (st := st) (fun h => by have := h.1; omega)
    exact ⟨false, rfl, by rw [hno]; rfl, hE19, fun st' h => by rw [hno] at h; cases h⟩
   ·skip
    refine wl_g ?_; refine wl_m ?_; refine wl_g ?_; refine wl_val rfl (ex_gtr rfl rfl) ?_; refine wl_pf ?_; refine wl_m ?_; refine wl_split (t := 31) rfl (fun hs31 => ?_) (fun hs31 => ?_)
    ·skip
     refine wl_n ?_; refine wl_n ?_; have hlt4 := Lt.blk hB22; have hszc := (hE19).size; refine wl_n ?_; refine wl_n ?_; refine wl_pt ?_; refine wl_nil (nrm_then ?_); refine cw_true rfl ?_; refine cw_seq ?_; refine cw_region ?_; refine wl_a ?_; refine wl_nil (nrm_then ?_); refine cw_ret (ret_then (body_ret1 rfl rfl ?_))
     have hno := fine_no (x := t) (b := b) (st := st) (fun h => by have := h.2.1; rw [← hz] at this; omega)
     exact ⟨false, rfl, by rw [hno]; rfl, hE19, fun st' h => by rw [hno] at h; cases h⟩
    ·skip
     refine wl_g ?_; refine wl_m ?_; refine wl_g ?_; refine wl_val rfl (ex_loadBlk rfl Tryz.agg25 Tryz.size25 hB22 rfl) ?_; have hlt4 := Lt.blk hB22; have hszc := (hE19).size; refine wl_g ?_
     refine wl_call1 (vs := [_, _]) Tryz.goes129 rfl (fields_ok (st := (st.1 + 1, st.2)) ⟨hB20, hO21, hne⟩ (RRx.pers _ _ _ _ _ _ hE19 hx0) (by simp only; omega)) rfl ?_
     rintro _ w23 ⟨fb, rfl, hfb, hw24, hfs⟩; have hE25 := hE19.step hw24 (fun y hy => .inl hy); have hB26 := hw24.blk hB22 (nmem2 hA5.symm hA6.symm); refine wl_g ?_; refine wl_val rfl (ex_notb rfl) ?_; refine wl_pf ?_; refine wl_nil (nrm_then ?_); refine cw_ifb rfl (fun hc36 => ?_) (fun hc36 => ?_)
     ·skip
      refine cw_seq ?_; refine cw_region ?_; refine wl_a ?_; refine wl_nil (nrm_then ?_); refine cw_ret (ret_then (body_ret1 rfl rfl ?_))
      have hno := fine_no (x := t) (b := b) (st := st) (fun h => by have := hfb.2 ⟨h.2.2.1, h.2.2.2⟩; rw [this] at hc36; cases hc36)
      exact ⟨false, rfl, by rw [hno]; rfl, hE25, fun st' h => by rw [hno] at h; cases h⟩
     ·skip
      obtain ⟨a2, c2, ob2, hJ2, hob2⟩ := hfs (by simpa using hc36); have hfb2 := hfb.1 (by simpa using hc36); have hA4 := ap_ob hA6.symm hlt4 hob2
      have hfin0 := fine_yes (x := t) (b := b) (st := st) ⟨by omega, by rw [← hz]; omega, hfb2.1, hfb2.2⟩
      have hst9 : StOk (st.1 + 1, if t.kind = 7 then st.2 ++ [t.name] else st.2) := ⟨by show (if t.kind = 7 then st.2 ++ [t.name] else st.2).length ≤ st.1 + 1; split; (rw [List.length_append]; simp; omega); omega, by show st.1 + 1 ≤ 8194; omega⟩
      have hg9 : ∀ g, ob2 = some g → g ∈ ob.toList ∨ w.heap.size ≤ g := fun g hg => by rcases hob2 with h | ⟨g', h1, h2⟩; left; rw [← h, hg]; simp; right; rw [hg] at h1; cases h1; exact Nat.le_trans hszc h2
      refine cw_skip (nrm_then ?_); refine cw_seq ?_; refine cw_seq ?_; refine cw_region ?_; refine wl_val rfl (ex_fieldAddr rfl Tryz.fld25_8) ?_; refine wl_val rfl (ex_load1 rfl Tryz.agg23 (cell_nth hB26 rfl)) ?_; refine wl_val rfl (ex_len_slice rfl Tryz.underlying23 rfl) ?_; refine wl_m ?_; refine wl_nil (nrm_then ?_); refine cw_block ?_
      refine cw_loop (α := Nat × St × Option Addr × Nat × Option Nat) ((0, (st.1 + 1, if t.kind = 7 then st.2 ++ [t.name] else st.2), a2, c2, ob2)) (fun x => [(40, .int .i64 (x.1 : Nat))]) [(0, _), (2, _), (4, _), (38, _), (39, _)] (fun x wr => Evo (jb :: ob.toList) w wr ∧ (x.1 ≤ t.kids.length ∧ StOk x.2.1 ∧ JAt wr 141 jb x.2.1 x.2.2.1 x.2.2.2.1 x.2.2.2.2 ∧ t.fine b st = fineKids (t.kids.drop x.1) t.kind z x.2.1 ∧ (∀ g, x.2.2.2.2 = some g → g ∈ ob.toList ∨ w.heap.size ≤ g) ∧ wr.heap[b4]? = some (.cells #[iv t.kind, .int .i32 t.r, .slice ra t.ranges.length rc, iv t.min, iv t.max, .bool t.lazy, iv t.cap, .string t.name, .slice ka t.kids.length kc] 25 (0, 0)) ∧ b4 ∉ jb :: x.2.2.2.2.toList)) (fun x => t.kids.length - x.1) ⟨rfl, trivial⟩ ⟨rfl, rfl, rfl, rfl, rfl, trivial⟩ ⟨hE25, ⟨Nat.zero_le _, hst9, ⟨hJ2.blk, hJ2.own, hJ2.ne⟩, by rw [hfin0, ← hz]; rfl, hg9, hB26, nmem2 hA5.symm hA4⟩⟩ ?_
      rintro ⟨j, s, a', c', o'⟩ wr27 ⟨hV28, ⟨hj, hsok, ⟨hB', hO', hne'⟩, hfin, hgo, hB4, hb4o⟩⟩; show CW _ _ _ _ [(40, .int .i64 (j : Nat)), (0, _), (2, _), (4, _), (38, _), (39, _)] _
      try dsimp only at hj
      try dsimp only at hsok
      try dsimp only at hB'
      try dsimp only at hO'
      try dsimp only at hne'
      try dsimp only at hfin
      try dsimp only at hgo
      try dsimp only at hB4
      try dsimp only at hb4o
      have hAJN' : Apart (some jb) o' := fun g h1 h2 => by cases h1; exact hne' jb h2 rfl
      have hA4J : Apart (some b4) (some jb) := fun g h1 h2 => by cases h1; cases h2; exact hb4o (by simp)
      have hA4N : Apart (some b4) o' := fun g h1 h2 => by cases h1; exact hb4o (by simp [h2])
      have hyo : ∀ y, y ∈ jb :: o'.toList → y ∈ jb :: ob.toList ∨ w.heap.size ≤ y := fun y hy => by rcases List.mem_cons.1 hy with h | h; left; rw [h]; simp; rcases hgo y (by simpa using h) with h1 | h1; left; exact List.mem_cons_of_mem _ h1; exact .inr h1
      skip
      refine cw_seq ?_; refine cw_region ?_; refine wl_val rfl (ex_lss rfl rfl) ?_; refine wl_nil (nrm_then ?_); refine cw_seq ?_; refine cw_if rfl (fun hc41 => ?_) (fun hc41 => ?_)
      ·skip
       have hj' : j < t.kids.length := by omega
       obtain ⟨b1, o1, vs1, ha1, hb1, hvl1, hc1, hrk⟩ := e1 j hj'; obtain ⟨m1, ra1, rc1, ka1, kc1, rfl, rfl, -⟩ := id hrk.get; refine cw_skip (nrm_then ?_); refine cw_seq ?_; refine cw_block ?_; refine cw_seq ?_; refine cw_region ?_
       refine wl_val rfl (ex_indexAddr (n := j) (by rw [ha1]; rfl) rfl Tryz.elem23 (by omega)) ?_
       refine wl_val rfl (ex_loadA rfl Tryz.agg25 Tryz.size25 (vs := [_, _, _, _, _, _, _, _, _]) rfl (hc1.evo hV28 hb1)) ?_; refine wl_alloc rfl Tryz.zero25 fun b8 w29 hB30 hs31 hw32 => ?_; have hsz_b8 := hs31; have hA33 := Apart.new (Lt.blk hB') hs31; have hA34 := Apart.new (Lt.own hO') hs31; have hA35 := Apart.new (Lt.blk hB4) hs31; have hG36 := Ge.new hV28 hs31; have hE37 := hV28.then hw32; have hB38 := hw32.blk0 hB'; have hO39 := hO'.evo0 hw32; have hB40 := hw32.blk0 hB4; refine wl_storeBlk rfl rfl Tryz.size25 hB30 rfl rfl ⟨by first | rfl | assumption, by first | rfl | assumption, by first | rfl | assumption, by first | rfl | assumption, by first | rfl | assumption, by first | rfl | assumption, by first | rfl | assumption, by first | rfl | assumption, by first | rfl | assumption, trivial⟩ fun w41 hB42 hw43 => ?_; have hE44 := hE37.step hw43 hG36.mem1; have hB45 := hw43.blk hB38 hA33.nmem1; have hO46 := hO39.evo hw43 hA34.own1; have hB47 := hw43.blk hB40 hA35.nmem1
       try simp only [List.setIfInBounds_toArray, List.set_cons_zero, List.set_cons_succ, Nat.reduceAdd, Nat.zero_add, Nat.add_zero] at hB42
       refine wl_nil (nrm_then ?_); refine cw_seq ?_; refine cw_region ?_; refine wl_a ?_; refine wl_nil (nrm_then ?_); refine cw_seq ?_; refine cw_seq ?_; refine cw_region ?_; refine wl_val rfl (ex_fieldAddr rfl Tryz.fld25_0) ?_; refine wl_val rfl (ex_load1 rfl Tryz.agg3 (cell_nth hB42 rfl)) ?_; refine wl_val rfl (ex_fieldAddr rfl Tryz.fld25_0) ?_; refine wl_val rfl (ex_load1 rfl Tryz.agg3 (cell_nth hB47 rfl)) ?_; refine wl_call1 (vs := [_, _]) Tryz.goes130 rfl (bracketed_ok t.kids[j].kind t.kind) rfl ?_; rintro _ w48 ⟨rfl, hw49⟩; have hE50 := hE44.then hw49; have hB51 := hw49.blk0 hB45; have hO52 := hO46.evo0 hw49; have hB53 := hw49.blk0 hB47; have hB54 := hw49.blk0 hB42; refine wl_nil (nrm_then ?_); refine cw_if rfl (fun hc48 => ?_) (fun hc48 => ?_)
       ·skip
        refine cw_region ?_; refine wl_a ?_; refine wl_nil (nrm_then ?_); refine cw_seq ?_; refine cw_region ?_; refine wl_m ?_; refine wl_val rfl (ex_loadBlk rfl Tryz.agg25 Tryz.size25 hB54 rfl) ?_; refine wl_m ?_; refine wl_m ?_; refine wl_val rfl (ex_add_i64 rfl rfl (by omega) (by omega)) ?_; have hsz54 := (hE50).size; have hlb4 := blk_lt hB53; refine wl_call1 (vs := [_, _, _]) Tryz.goes82 rfl (ih _ jb s a' c' o' _ t.kids[j] _ ⟨hB51, hO52, hne'⟩ (RRx.step hrk hE50 hyo hXlt) hsok (by omega) (by omega)) rfl ?_; rintro _ w55 ⟨r, rfl, hr, hw56, hs2⟩; have hE57 := hE50.step hw56 (hyo); have hB58 := hw56.blk hB53 (hb4o); have hB59 := hw56.blk hB54 (nmem2 hA33.symm hA34.symm); refine wl_val rfl (ex_notb rfl) ?_; refine wl_nil (nrm_then ?_); refine cw_ifb rfl (fun hc55 => ?_) (fun hc55 => ?_)
        ·skip
         refine cw_seq ?_; refine cw_region ?_; refine wl_a ?_; refine wl_nil (nrm_then ?_); refine cw_ret (ret_block (ret_then (ret_then (ret_block (ret_then (body_ret1 rfl rfl ?_)))))); rw [show (z + 1 : Int) = z + (if Brk t.kids[j].kind t.kind then 1 else 0) from by rw [if_pos hc48]] at hr hs2
         have hn : t.kids[j].fine (z + if Brk t.kids[j].kind t.kind then 1 else 0) s = none := by
           cases h : t.kids[j].fine (z + if Brk t.kids[j].kind t.kind then 1 else 0) s with
           | none => rfl
           | some s3 => rw [h] at hr; simp at hr; rw [hr] at hc55; cases hc55
         have hno : t.fine b st = none := by rw [hfin, fineKids_at hj', hn]
         exact ⟨false, rfl, by rw [hno]; rfl, hE57, fun st' h => by rw [hno] at h; cases h⟩
        ·skip
         rw [show (z + 1 : Int) = z + (if Brk t.kids[j].kind t.kind then 1 else 0) from by rw [if_pos hc48]] at hr hs2
         obtain ⟨s3, hs3⟩ := Option.isSome_iff_exists.1 (show (t.kids[j].fine _ s).isSome = true by rw [← hr]; simpa using hc55)
         obtain ⟨hsok3, a3, c3, o3, hJ3, ho3⟩ := hs2 s3 hs3
         have hg3 : ∀ g, o3 = some g → g ∈ ob.toList ∨ w.heap.size ≤ g := fun g hg => by rcases ho3 g hg with h | h; exact hgo g (by simpa using h); exact .inr (Nat.le_trans hsz54 h)
         have hb43 : b4 ∉ jb :: o3.toList := fun hm => by rcases List.mem_cons.1 hm with h | h; exact hb4o (by rw [h]; simp); rcases ho3 b4 (by simpa using h) with h1 | h1; exact hb4o (List.mem_cons_of_mem _ h1); omega
         refine cw_skip (nrm_block (nrm_then ?_)); refine cw_region ?_; refine wl_val rfl (ex_add_i64 rfl rfl (by omega) (by omega)) ?_; refine wl_m ?_; refine wl_nil (nrm_same ?_); refine ⟨(j + 1, s3, a3, c3, o3), ?_, ⟨rfl, trivial⟩, ⟨rfl, rfl, rfl, rfl, rfl, trivial⟩, hE57, ?_⟩
         · (try dsimp only); omega
         ·skip
          try dsimp only
          refine ⟨by omega, hsok3, ⟨hJ3.blk, hJ3.own, hJ3.ne⟩, ?_, hg3, hB58, hb43⟩; rw [hfin, fineKids_at hj', hs3]
       ·skip
        refine cw_skip (nrm_then ?_); refine cw_seq ?_; refine cw_region ?_; refine wl_m ?_; refine wl_val rfl (ex_loadBlk rfl Tryz.agg25 Tryz.size25 hB54 rfl) ?_; refine wl_m ?_; refine wl_m ?_; refine wl_val rfl (ex_add_i64 rfl rfl (by omega) (by omega)) ?_; have hsz54 := (hE50).size; have hlb4 := blk_lt hB53; refine wl_call1 (vs := [_, _, _]) Tryz.goes82 rfl (ih _ jb s a' c' o' _ t.kids[j] _ ⟨hB51, hO52, hne'⟩ (RRx.step hrk hE50 hyo hXlt) hsok (by omega) (by omega)) rfl ?_; rintro _ w60 ⟨r, rfl, hr, hw61, hs2⟩; have hE62 := hE50.step hw61 (hyo); have hB63 := hw61.blk hB53 (hb4o); have hB64 := hw61.blk hB54 (nmem2 hA33.symm hA34.symm); refine wl_val rfl (ex_notb rfl) ?_; refine wl_nil (nrm_then ?_); refine cw_ifb rfl (fun hc55 => ?_) (fun hc55 => ?_)
        ·skip
         refine cw_seq ?_; refine cw_region ?_; refine wl_a ?_; refine wl_nil (nrm_then ?_); refine cw_ret (ret_block (ret_then (ret_then (ret_block (ret_then (body_ret1 rfl rfl ?_)))))); rw [show (z + 0 : Int) = z + (if Brk t.kids[j].kind t.kind then 1 else 0) from by rw [if_neg hc48]] at hr hs2
         have hn : t.kids[j].fine (z + if Brk t.kids[j].kind t.kind then 1 else 0) s = none := by
           cases h : t.kids[j].fine (z + if Brk t.kids[j].kind t.kind then 1 else 0) s with
           | none => rfl
           | some s3 => rw [h] at hr; simp at hr; rw [hr] at hc55; cases hc55
         have hno : t.fine b st = none := by rw [hfin, fineKids_at hj', hn]
         exact ⟨false, rfl, by rw [hno]; rfl, hE62, fun st' h => by rw [hno] at h; cases h⟩
        ·skip
         rw [show (z + 0 : Int) = z + (if Brk t.kids[j].kind t.kind then 1 else 0) from by rw [if_neg hc48]] at hr hs2
         obtain ⟨s3, hs3⟩ := Option.isSome_iff_exists.1 (show (t.kids[j].fine _ s).isSome = true by rw [← hr]; simpa using hc55)
         obtain ⟨hsok3, a3, c3, o3, hJ3, ho3⟩ := hs2 s3 hs3
         have hg3 : ∀ g, o3 = some g → g ∈ ob.toList ∨ w.heap.size ≤ g := fun g hg => by rcases ho3 g hg with h | h; exact hgo g (by simpa using h); exact .inr (Nat.le_trans hsz54 h)
         have hb43 : b4 ∉ jb :: o3.toList := fun hm => by rcases List.mem_cons.1 hm with h | h; exact hb4o (by rw [h]; simp); rcases ho3 b4 (by simpa using h) with h1 | h1; exact hb4o (List.mem_cons_of_mem _ h1); omega
         refine cw_skip (nrm_block (nrm_then ?_)); refine cw_region ?_; refine wl_val rfl (ex_add_i64 rfl rfl (by omega) (by omega)) ?_; refine wl_m ?_; refine wl_nil (nrm_same ?_); refine ⟨(j + 1, s3, a3, c3, o3), ?_, ⟨rfl, trivial⟩, ⟨rfl, rfl, rfl, rfl, rfl, trivial⟩, hE62, ?_⟩
         · (try dsimp only); omega
         ·skip
          try dsimp only
          refine ⟨by omega, hsok3, ⟨hJ3.blk, hJ3.own, hJ3.ne⟩, ?_, hg3, hB63, hb43⟩; rw [hfin, fineKids_at hj', hs3]
      ·skip
       refine cw_exit (ex_then (ex_then (ex_here (nrm_then ?_)))); refine cw_seq ?_; refine cw_region ?_; refine wl_a ?_; refine wl_nil (nrm_then ?_); refine cw_ret (body_ret1 rfl rfl ?_)
       have hn : t.fine b st = some s := by rw [hfin, fineKids_end (by omega)]
       exact ⟨true, rfl, by rw [hn]; rfl, hV28, fun st' h => by rw [hn] at h; cases h; exact ⟨hsok, a', c', o', ⟨hB', hO', hne'⟩, hgo⟩⟩
end Go.Proofs.YtgnpldackjbdjaaGreat
namespace Go.Proofs.YtgnpldackjbdjaaGreat
open Go.Proofs
open Go.W Go.RowKit
attribute [local irreducible] Decidable.decide
set_option linter.unusedSimpArgs false
set_option linter.unusedVariables false
theorem Tryz.zero141 : zeroB Tryz.prog 141 = some #[.int .i64 0, .slice none 0 0] := by kernel_rfl
theorem fine_ok : ∀ {n : Nat} {w : World} {jb : Nat} {st : St} {a : Option Addr} {c : Nat} {ob : Option Nat} {vs : List Value} {t : Rx} {b : Int}, JAt w 141 jb st a c ob → RRx n (jb :: ob.toList) w vs t → StOk st → 0 ≤ b → b ≤ 251 →
      Calls Tryz.prog 82 #[.pointer (some ⟨jb, 0, none⟩), .agg vs.toArray, .int .i64 b] w (Ret fun v w' => ∃ r, v = .bool r ∧ r = (t.fine b st).isSome ∧ Evo (jb :: ob.toList) w w' ∧ ∀ st', t.fine b st = some st' → StOk st' ∧ ∃ a' c' ob', JAt w' 141 jb st' a' c' ob' ∧ ∀ g, ob' = some g → g ∈ ob.toList ∨ w.heap.size ≤ g)
  | 0, w, jb, st, a, c, ob, vs, t, b, hJ, hx, hs, h0, h1 => hx.elim
  | n + 1, w, jb, st, a, c, ob, vs, t, b, hJ, hx, hs, h0, h1 => fine_step (n := n) (fun w jb st a c ob vs t b hJ hx hs h0 h1 => fine_ok hJ hx hs h0 h1) hJ hx hs h0 h1
theorem JAt.new {w : World} {jb : Nat} {T : TypeId} (h : w.heap[jb]? = some (.cells #[iv 0, .slice none 0 0] T (0, 0))) : JAt w T jb (0, []) none 0 none := ⟨h, OwnS.nil _ _ _, fun g hg => by cases hg⟩
theorem valid_ok {n : Nat} {w : World} {vs : List Value} {t : Rx} (hx : RRx n [] w vs t) :
    Calls Tryz.prog 38 #[.agg vs.toArray] w (Ret fun v w' => ∃ r, v = .bool r ∧ (r = true ↔ t.Ok) ∧ Evo [] w w') := by
  have hx0 := hx; obtain ⟨m, ra, rc, ka, kc, hm, rfl, hrg, hk, bl1, bl2, bl3⟩ := hx.get; refine calls_of_cw (N := 6) Tryz.func38 rfl rfl rfl ?_; refine cw_seq ?_; refine cw_region ?_; refine wl_boxA rfl rfl fun b1 w2 hB3 hs4 hw5 => ?_; have hG6 := Ge.new (Evo.refl [] w) hs4; have hE7 := (Evo.refl [] w).then hw5; refine wl_a ?_; refine wl_nil (nrm_then ?_); refine cw_seq ?_; refine cw_region ?_; refine wl_alloc rfl Tryz.zero141 fun jb w8 hB9 hs10 hw11 => ?_; have hsz_jb := hs10; have hA12 := Apart.new (Lt.blk hB3) hs10; have hG13 := Ge.new hE7 hs10; have hE14 := hE7.then hw11; have hB15 := hw11.blk0 hB3; refine wl_val rfl (ex_loadBlk rfl Tryz.agg25 Tryz.size25 hB15 rfl) ?_; refine wl_call1 (vs := [_, _, _]) Tryz.goes82 rfl (fine_ok (st := (0, [])) (JAt.new hB9) (RRx.step hx0 hE14 hG13.mem1 (fun b hb => by cases hb)) ⟨Nat.le_refl _, by decide⟩ (by decide) (by decide)) rfl ?_; rintro _ w16 ⟨r, rfl, hr, hw17, -⟩; have hE18 := hE14.step hw17 (hG13.mem1); refine wl_a ?_; refine wl_nil (nrm_then ?_); refine cw_ret (body_ret1 rfl rfl ?_)
  exact ⟨r, rfl, by rw [hr, Option.isSome_iff_exists]; rfl, hE18⟩
end Go.Proofs.YtgnpldackjbdjaaGreat
namespace Go.Proofs.YtgnpldackjbdjaaGreat
open Go.Proofs
open Go.W Go.RowKit
attribute [local irreducible] Decidable.decide
set_option linter.unusedSimpArgs false
set_option linter.unusedVariables false
theorem Tryz.slice22 : sliceB Tryz.prog 22 = some (129, 2) := by kernel_rfl
structure CdAt (w : World) (cb : Nat) (es : List Iv) (a : Option Addr) (c : Nat) (ob : Option Nat) (Z : List Nat) : Prop where
  blk : w.heap[cb]? = some (.cells #[.slice a es.length c] 162 (0, 0))
  own : OwnS w 165 5 a es.length c (flat es) ob
  ne : ∀ g, ob = some g → g ≠ cb
  rs : ∀ e, e ∈ es → RSl 2 RRg (cb :: (ob.toList ++ Z)) w e.2 e.1.rs
theorem CdAt.lt {w : World} {cb : Nat} {es : List Iv} {a : Option Addr} {c : Nat} {ob : Option Nat} {Z : List Nat} (h : CdAt w cb es a c ob Z) : ∀ y, y ∈ cb :: ob.toList → y < w.heap.size := fun y hy => by
  rcases List.mem_cons.1 hy with e | e
  · rw [e]; exact blk_lt h.blk
  · have : ob = some y := by simpa using e
    subst this; exact h.own.lt
theorem rrg_step {X Y : List Nat} {w w' : World} {v : Value} {l : List (Int × Int)} (h : RSl 2 RRg X w v l) (he : Evo X w w') (hy : ∀ y, y ∈ Y → y ∈ X ∨ w.heap.size ≤ y) : RSl 2 RRg Y w' v l := by
  have h1 : RSl 2 RRg (Y ++ X) w v l := RSl.fresh (by decide) RRg.fresh (fun y hm => by rcases List.mem_append.1 hm with h | h; exact hy y h; exact .inl h) h
  have h2 := RSl.evo RRg.pers (he.mono (fun b hb => by simp [hb])) h1
  obtain ⟨a, c, hv, hc, h3⟩ := h2
  exact ⟨a, c, hv, hc, fun k hk => by obtain ⟨b, o, vs, ha, hb, hl, hcs, hr⟩ := h3 k hk; exact ⟨b, o, vs, ha, fun hm => hb (by simp [hm]), hl, hcs, hr⟩⟩
theorem RRg.one : ∀ X w vs d, RRg X w vs d → ∀ u, u ∈ vs → u.oneCell' = true := fun _ _ _ _ h u hu => by
  subst h; simp at hu; rcases hu with rfl | rfl <;> rfl
theorem CdAt.evo {w w' : World} {cb : Nat} {es : List Iv} {a : Option Addr} {c : Nat} {ob : Option Nat} {Y Z Z' : List Nat} (h : CdAt w cb es a c ob Z) (he : Evo Y w w') (h1 : cb ∉ Y) (h2 : ∀ g, ob = some g → g ∉ Y) (hY : ∀ y, y ∈ Y → y ∈ Z) (hZ : ∀ z, z ∈ Z' → z ∈ Z ∨ w.heap.size ≤ z) : CdAt w' cb es a c ob Z' :=
  ⟨he.blk h.blk h1, h.own.evo he h2, h.ne, fun e hm => rrg_step (h.rs e hm) (he.mono (fun b hb => List.mem_cons_of_mem _ (List.mem_append_right _ (hY b hb)))) (fun y hy => by
    rw [← List.cons_append] at hy
    rcases List.mem_append.1 hy with e | e
    · left; rw [← List.cons_append]; exact List.mem_append_left _ e
    · exact (hZ y e).imp (fun h => by rw [← List.cons_append]; exact List.mem_append_right _ h) id)⟩
theorem CdAt.evo0 {w w' : World} {cb : Nat} {es : List Iv} {a : Option Addr} {c : Nat} {ob : Option Nat} {Z : List Nat} (h : CdAt w cb es a c ob Z) (he : Evo [] w w') : CdAt w' cb es a c ob Z := h.evo he (by simp) (by simp) (by simp) (fun z hz => .inl hz)
theorem rnil0 {α : Type} {sz : Nat} {R : Rel α} {X : List Nat} {w : World} : RSl sz R X w (.slice none 0 0) [] := ⟨none, 0, rfl, by simp, fun k hk => by simp at hk⟩
end Go.Proofs.YtgnpldackjbdjaaGreat
namespace Go.Proofs.YtgnpldackjbdjaaGreat
open Go.W Go.RowKit
set_option linter.unusedVariables false
set_option linter.unusedSimpArgs false
def CatC (ks : List Rx) (a : Nat) (k : List In) : Prop := ∀ l, Has l a k → Blks l ks a (a + k.length)
theorem CatC.nil (a : Nat) : CatC [] a [] := fun l _ => by rw [Blks]; rfl
section
variable {x y : Rx} {a : Nat} {k kx : List In}
end
end Go.Proofs.YtgnpldackjbdjaaGreat
namespace Go.Proofs.YtgnpldackjbdjaaGreat
open Go.Proofs
open Go.W Go.RowKit
attribute [local irreducible] Decidable.decide
set_option linter.unusedSimpArgs false
set_option linter.unusedVariables false
theorem eszs_le {l : List Rx} {j : Nat} (h : j < l.length) : eszs (l.take j) + l[j].esz ≤ eszs l := by
  rw [← eszs_take h]
  have : ∀ (l : List Rx) (k : Nat), eszs (l.take k) ≤ eszs l := by
    intro l
    induction l with
    | nil => intro k; simp
    | cons x xs ih =>
      intro k
      cases k with
      | zero => rw [List.take_zero, eszs]; exact Nat.zero_le _
      | succ k => rw [List.take_succ_cons, eszs, eszs]; have := ih k; omega
  exact this l (j + 1)
end Go.Proofs.YtgnpldackjbdjaaGreat
namespace Go.Proofs.YtgnpldackjbdjaaGreat
open Go.Proofs
open Go.W Go.RowKit
attribute [local irreducible] Decidable.decide
set_option linter.unusedSimpArgs false
set_option linter.unusedVariables false
theorem single_of {l : List Rx} (h : l.length = 1) : l = [l[0]] := by
  apply List.ext_getElem
  · simp [h]
  · intro i h1 h2
    have : i = 0 := by omega
    subst this
    rfl
end Go.Proofs.YtgnpldackjbdjaaGreat
