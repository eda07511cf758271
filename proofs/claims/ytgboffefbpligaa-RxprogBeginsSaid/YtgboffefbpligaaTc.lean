/- The walks of the tree's judge: fields, fine; Valid, Groups. -/
import Derived.Test.YtgboffefbpligaaTb
namespace Go.Proofs.Ytgboffefbpligaa
open Go.Proofs
open Go.W Go.RowKit
attribute [local irreducible] Decidable.decide
set_option linter.unusedSimpArgs false
set_option linter.unusedVariables false
theorem Try.agg22 : aggB Try.prog 22 = some false := by kernel_rfl
theorem Try.agg23 : aggB Try.prog 23 = some false := by kernel_rfl
theorem Try.agg25 : aggB Try.prog 25 = some true := by kernel_rfl
theorem Try.agg3 : aggB Try.prog 3 = some false := by kernel_rfl
theorem Try.agg4 : aggB Try.prog 4 = some false := by kernel_rfl
theorem Try.elem23 : elemB Try.prog 23 = some 9 := by kernel_rfl
theorem Try.fld25_0 : fieldB Try.prog 25 0 = some 0 := by kernel_rfl
theorem Try.fld25_1 : fieldB Try.prog 25 1 = some 1 := by kernel_rfl
theorem Try.fld25_2 : fieldB Try.prog 25 2 = some 2 := by kernel_rfl
theorem Try.fld25_3 : fieldB Try.prog 25 3 = some 3 := by kernel_rfl
theorem Try.fld25_4 : fieldB Try.prog 25 4 = some 4 := by kernel_rfl
theorem Try.fld25_5 : fieldB Try.prog 25 5 = some 5 := by kernel_rfl
theorem Try.fld25_6 : fieldB Try.prog 25 6 = some 6 := by kernel_rfl
theorem Try.fld25_7 : fieldB Try.prog 25 7 = some 7 := by kernel_rfl
theorem Try.fld25_8 : fieldB Try.prog 25 8 = some 8 := by kernel_rfl
theorem Try.goes78 : Goes Try.prog 78 := ⟨_, Try.func78, by kernel_rfl, by kernel_rfl⟩
theorem Try.goes79 : Goes Try.prog 79 := ⟨_, Try.func79, by kernel_rfl, by kernel_rfl⟩
theorem Try.size21 : sizeB Try.prog 21 = some 1 := by kernel_rfl
theorem Try.size22 : sizeB Try.prog 22 = some 1 := by kernel_rfl
theorem Try.size23 : sizeB Try.prog 23 = some 1 := by kernel_rfl
theorem Try.size25 : sizeB Try.prog 25 = some 9 := by kernel_rfl
theorem Try.size3 : sizeB Try.prog 3 = some 1 := by kernel_rfl
theorem Try.size4 : sizeB Try.prog 4 = some 1 := by kernel_rfl
theorem Try.size9 : sizeB Try.prog 9 = some 1 := by kernel_rfl
theorem Try.zero25 : zeroB Try.prog 25 = some #[.int .i64 0, .int .i32 0, .slice none 0 0, .int .i64 0, .int .i64 0, .bool false, .int .i64 0, .string ByteArray.empty, .slice none 0 0] := by kernel_rfl


theorem nmem2 {b jb : Nat} {ob : Option Nat} (h1 : Apart (some b) (some jb)) (h2 : Apart (some b) ob) : b ∉ jb :: ob.toList := fun hm => by
  rcases List.mem_cons.1 hm with h | h
  · exact h1 b rfl (by rw [h])
  · exact h2 b rfl (by simpa using h)

theorem bracketed_ok {w : World} (a k : Int) : Calls Try.prog 57 #[.int .i64 a, .int .i64 k] w (Ret fun v w' => v = .bool (decide (Brk a k)) ∧ Evo [] w w') := by
  refine calls_of_cw (N := 38) Try.func57 rfl rfl rfl ?_
  refine cw_seq ?_
  refine cw_region ?_
  refine wl_a ?_
  refine wl_nil (nrm_then ?_)
  refine cw_seq ?_
  refine cw_seq ?_
  refine cw_region ?_
  refine wl_m ?_
  refine wl_nil (nrm_then ?_)
  refine cw_block ?_
  refine cw_seq ?_
  refine cw_region ?_
  refine wl_val rfl (ex_eql rfl rfl) ?_
  refine wl_a ?_
  refine wl_nil (nrm_then ?_)
  refine cw_if rfl (fun hc6 => ?_) (fun hc6 => ?_)
  ·skip
   refine cw_seq ?_
   refine cw_region ?_
   refine wl_m ?_
   refine wl_val rfl (ex_eql rfl rfl) ?_
   refine wl_a ?_
   refine wl_nil (nrm_then ?_)
   refine cw_ret (ret_block (ret_then (body_ret1 rfl rfl ?_)))
   refine ⟨congrArg Value.bool (Bool.eq_iff_iff.2 ?_), (Evo.refl [] w)⟩
   simp only [decide_eq_true_eq, Bool.false_eq_true, Bool.true_eq_false, true_iff, false_iff, eq_self, iff_true]; unfold Brk; omega
  ·skip
   refine cw_seq ?_
   refine cw_region ?_
   refine wl_val rfl (ex_eql rfl rfl) ?_
   refine wl_a ?_
   refine wl_nil (nrm_then ?_)
   refine cw_if rfl (fun hc10 => ?_) (fun hc10 => ?_)
   ·skip
    refine cw_seq ?_
    refine cw_region ?_
    refine wl_m ?_
    refine wl_val rfl (ex_eql rfl rfl) ?_
    refine wl_m ?_
    refine wl_split (t := 14) rfl (fun hs14 => ?_) (fun hs14 => ?_)
    ·skip
     refine wl_n ?_
     refine wl_n ?_
     refine wl_pt ?_
     refine wl_m ?_
     refine wl_n ?_
     refine wl_n ?_
     refine wl_pt ?_
     refine wl_a ?_
     refine wl_nil (nrm_then ?_)
     refine cw_ret (ret_block (ret_then (body_ret1 rfl rfl ?_)))
     refine ⟨congrArg Value.bool (Bool.eq_iff_iff.2 ?_), (Evo.refl [] w)⟩
     simp only [decide_eq_true_eq, Bool.false_eq_true, Bool.true_eq_false, true_iff, false_iff, eq_self, iff_true]; unfold Brk; omega
    ·skip
     refine wl_g ?_
     refine wl_m ?_
     refine wl_g ?_
     refine wl_val rfl (ex_eql rfl rfl) ?_
     refine wl_pf ?_
     refine wl_m ?_
     refine wl_split (t := 18) rfl (fun hs18 => ?_) (fun hs18 => ?_)
     ·skip
      refine wl_n ?_
      refine wl_n ?_
      refine wl_pt ?_
      refine wl_a ?_
      refine wl_nil (nrm_then ?_)
      refine cw_ret (ret_block (ret_then (body_ret1 rfl rfl ?_)))
      refine ⟨congrArg Value.bool (Bool.eq_iff_iff.2 ?_), (Evo.refl [] w)⟩
      simp only [decide_eq_true_eq, Bool.false_eq_true, Bool.true_eq_false, true_iff, false_iff, eq_self, iff_true]; unfold Brk; omega
     ·skip
      refine wl_g ?_
      refine wl_m ?_
      refine wl_g ?_
      refine wl_val rfl (ex_eql rfl rfl) ?_
      refine wl_pf ?_
      refine wl_a ?_
      refine wl_nil (nrm_then ?_)
      refine cw_ret (ret_block (ret_then (body_ret1 rfl rfl ?_)))
      refine ⟨congrArg Value.bool (Bool.eq_iff_iff.2 ?_), (Evo.refl [] w)⟩
      simp only [decide_eq_true_eq, Bool.false_eq_true, Bool.true_eq_false, true_iff, false_iff, eq_self, iff_true]; unfold Brk; omega
   ·skip
    refine cw_seq ?_
    refine cw_region ?_
    refine wl_val rfl (ex_eql rfl rfl) ?_
    refine wl_a ?_
    refine wl_nil (nrm_then ?_)
    refine cw_if rfl (fun hc22 => ?_) (fun hc22 => ?_)
    ·skip
     refine cw_seq ?_
     refine cw_region ?_
     refine wl_m ?_
     refine wl_val rfl (ex_eql rfl rfl) ?_
     refine wl_m ?_
     refine wl_split (t := 26) rfl (fun hs26 => ?_) (fun hs26 => ?_)
     ·skip
      refine wl_n ?_
      refine wl_n ?_
      refine wl_pt ?_
      refine wl_m ?_
      refine wl_n ?_
      refine wl_n ?_
      refine wl_pt ?_
      refine wl_m ?_
      refine wl_n ?_
      refine wl_n ?_
      refine wl_pt ?_
      refine wl_a ?_
      refine wl_nil (nrm_then ?_)
      refine cw_ret (ret_block (ret_then (body_ret1 rfl rfl ?_)))
      refine ⟨congrArg Value.bool (Bool.eq_iff_iff.2 ?_), (Evo.refl [] w)⟩
      simp only [decide_eq_true_eq, Bool.false_eq_true, Bool.true_eq_false, true_iff, false_iff, eq_self, iff_true]; unfold Brk; omega
     ·skip
      refine wl_g ?_
      refine wl_m ?_
      refine wl_g ?_
      refine wl_val rfl (ex_eql rfl rfl) ?_
      refine wl_pf ?_
      refine wl_m ?_
      refine wl_split (t := 30) rfl (fun hs30 => ?_) (fun hs30 => ?_)
      ·skip
       refine wl_n ?_
       refine wl_n ?_
       refine wl_pt ?_
       refine wl_m ?_
       refine wl_n ?_
       refine wl_n ?_
       refine wl_pt ?_
       refine wl_a ?_
       refine wl_nil (nrm_then ?_)
       refine cw_ret (ret_block (ret_then (body_ret1 rfl rfl ?_)))
       refine ⟨congrArg Value.bool (Bool.eq_iff_iff.2 ?_), (Evo.refl [] w)⟩
       simp only [decide_eq_true_eq, Bool.false_eq_true, Bool.true_eq_false, true_iff, false_iff, eq_self, iff_true]; unfold Brk; omega
      ·skip
       refine wl_g ?_
       refine wl_m ?_
       refine wl_g ?_
       refine wl_val rfl (ex_eql rfl rfl) ?_
       refine wl_pf ?_
       refine wl_m ?_
       refine wl_split (t := 34) rfl (fun hs34 => ?_) (fun hs34 => ?_)
       ·skip
        refine wl_n ?_
        refine wl_n ?_
        refine wl_pt ?_
        refine wl_a ?_
        refine wl_nil (nrm_then ?_)
        refine cw_ret (ret_block (ret_then (body_ret1 rfl rfl ?_)))
        refine ⟨congrArg Value.bool (Bool.eq_iff_iff.2 ?_), (Evo.refl [] w)⟩
        simp only [decide_eq_true_eq, Bool.false_eq_true, Bool.true_eq_false, true_iff, false_iff, eq_self, iff_true]; unfold Brk; omega
       ·skip
        refine wl_g ?_
        refine wl_m ?_
        refine wl_g ?_
        refine wl_val rfl (ex_eql rfl rfl) ?_
        refine wl_pf ?_
        refine wl_a ?_
        refine wl_nil (nrm_then ?_)
        refine cw_ret (ret_block (ret_then (body_ret1 rfl rfl ?_)))
        refine ⟨congrArg Value.bool (Bool.eq_iff_iff.2 ?_), (Evo.refl [] w)⟩
        simp only [decide_eq_true_eq, Bool.false_eq_true, Bool.true_eq_false, true_iff, false_iff, eq_self, iff_true]; unfold Brk; omega
    ·skip
     refine cw_skip (nrm_block (nrm_then ?_))
     refine cw_seq ?_
     refine cw_region ?_
     refine wl_a ?_
     refine wl_nil (nrm_then ?_)
     refine cw_ret (body_ret1 rfl rfl ?_)
     refine ⟨congrArg Value.bool (Bool.eq_iff_iff.2 ?_), (Evo.refl [] w)⟩
     simp only [decide_eq_true_eq, Bool.false_eq_true, Bool.true_eq_false, true_iff, false_iff, eq_self, iff_true]; unfold Brk; omega

set_option maxHeartbeats 4000000 in
theorem fields_ok {n : Nat} {w : World} {jb : Nat} {st : St} {a : Option Addr} {c : Nat} {ob : Option Nat} {vs : List Value} {x : Rx} (hJ : JAt w 79 jb st a c ob) (hx : RRx n (jb :: ob.toList) w vs x) (hl : st.2.length ≤ 100000) :
    Calls Try.prog 56 #[.pointer (some ⟨jb, 0, none⟩), .agg vs.toArray] w (Ret fun v w' => ∃ b, v = .bool b ∧ (b = true ↔ NodeP x ∧ (x.kind = 7 → GroupOk x.cap x.name st.2)) ∧ Evo (jb :: ob.toList) w w' ∧
      (b = true → ∃ a' c' ob', JAt w' 79 jb (st.1, if x.kind = 7 then st.2 ++ [x.name] else st.2) a' c' ob' ∧ (ob' = ob ∨ ∃ g, ob' = some g ∧ w.heap.size ≤ g))) := by
  obtain ⟨hB, hO, hne⟩ := hJ
  have hAJN : Apart (some jb) ob := fun g h1 h2 => by cases h1; exact hne jb h2 rfl
  have hlt := blk_lt hB
  cases n with
  | zero => exact hx.elim
  | succ n =>
  obtain ⟨vr, vk, rfl, hr, hk, bl1, bl2, bl3⟩ := hx
  obtain ⟨ka, kc, rfl, hkc, e1⟩ := hk
  have hr0 := hr
  obtain ⟨ra, rc, rfl, hrc, e2⟩ := hr
  refine calls_of_cw (N := 127) Try.func56 rfl rfl rfl ?_
  refine cw_seq ?_
  refine cw_region ?_
  refine wl_boxA rfl rfl fun b3 w1 hB2 hs3 hw4 => ?_
  have hsz_b3 := hs3
  have hA5 := Apart.new (Lt.blk hB) hs3
  have hA6 := Apart.new (Lt.own hO) hs3
  have hG7 := Ge.new (Evo.refl (jb :: ob.toList) w) hs3
  have hE8 := (Evo.refl (jb :: ob.toList) w).then hw4
  have hB9 := hw4.blk0 hB
  have hO10 := hO.evo0 hw4
  refine wl_a ?_
  refine wl_nil (nrm_then ?_)
  refine cw_seq ?_
  refine cw_region ?_
  refine wl_val rfl (ex_loadBlk rfl Try.agg25 Try.size25 hB2 rfl) ?_
  refine wl_alloc rfl Try.zero25 fun b5 w11 hB12 hs13 hw14 => ?_
  have hsz_b5 := hs13
  have hA15 := Apart.new (Lt.blk hB9) hs13
  have hA16 := Apart.new (Lt.own hO10) hs13
  have hA17 := Apart.new (Lt.blk hB2) hs13
  have hG18 := Ge.new hE8 hs13
  have hE19 := hE8.then hw14
  have hB20 := hw14.blk0 hB9
  have hO21 := hO10.evo0 hw14
  have hB22 := hw14.blk0 hB2
  refine wl_storeBlk rfl rfl Try.size25 hB12 rfl rfl ⟨by first | rfl | assumption, by first | rfl | assumption, by first | rfl | assumption, by first | rfl | assumption, by first | rfl | assumption, by first | rfl | assumption, by first | rfl | assumption, by first | rfl | assumption, by first | rfl | assumption, trivial⟩ fun w23 hB24 hw25 => ?_
  have hE26 := hE19.step hw25 hG18.mem1
  have hB27 := hw25.blk hB20 hA15.nmem1
  have hO28 := hO21.evo hw25 hA16.own1
  have hB29 := hw25.blk hB22 hA17.nmem1
  try simp only [List.setIfInBounds_toArray, List.set_cons_zero, List.set_cons_succ, Nat.reduceAdd, Nat.zero_add, Nat.add_zero] at hB24
  refine wl_nil (nrm_then ?_)
  refine cw_seq ?_
  refine cw_region ?_
  refine wl_val rfl (ex_fieldAddr rfl Try.fld25_0) ?_
  refine wl_store1 rfl rfl (by first | rfl | assumption) Try.size3 hB24 rfl fun w30 hB31 hw32 => ?_
  have hE33 := hE26.step hw32 hG18.mem1
  have hB34 := hw32.blk hB27 hA15.nmem1
  have hO35 := hO28.evo hw32 hA16.own1
  have hB36 := hw32.blk hB29 hA17.nmem1
  try simp only [List.setIfInBounds_toArray, List.set_cons_zero, List.set_cons_succ, Nat.reduceAdd, Nat.zero_add, Nat.add_zero] at hB31
  refine wl_val rfl (ex_fieldAddr rfl Try.fld25_8) ?_
  refine wl_store1 rfl rfl (by first | rfl | assumption) Try.size23 hB31 rfl fun w37 hB38 hw39 => ?_
  have hE40 := hE33.step hw39 hG18.mem1
  have hB41 := hw39.blk hB34 hA15.nmem1
  have hO42 := hO35.evo hw39 hA16.own1
  have hB43 := hw39.blk hB36 hA17.nmem1
  try simp only [List.setIfInBounds_toArray, List.set_cons_zero, List.set_cons_succ, Nat.reduceAdd, Nat.zero_add, Nat.add_zero] at hB38
  refine wl_nil (nrm_then ?_)
  refine cw_seq ?_
  refine cw_region ?_
  refine wl_a ?_
  refine wl_nil (nrm_then ?_)
  refine cw_seq ?_
  refine cw_seq ?_
  refine cw_region ?_
  refine wl_val rfl (ex_fieldAddr rfl Try.fld25_0) ?_
  refine wl_val rfl (ex_load1 rfl Try.agg3 (cell_nth hB43 rfl)) ?_
  refine wl_nil (nrm_then ?_)
  refine cw_block ?_
  refine cw_seq ?_
  refine cw_cut (α := Bool) (fun z => [(12, .bool z)]) [(0, _), (3, _), (4, _), (5, _), (6, _), (11, _)] (fun z wr => Evo [] w37 wr ∧ (z = true ↔ (x.kind = 1 ∨ (8 ≤ x.kind ∧ x.kind ≤ 13)))) ⟨rfl, rfl, rfl, rfl, rfl, rfl, trivial⟩ ?_ ?_
  ·skip
   refine cw_seq ?_
   refine cw_region ?_
   refine wl_val rfl (ex_eql rfl rfl) ?_
   refine wl_a ?_
   refine wl_nil (nrm_then ?_)
   refine cw_if rfl (fun hc12 => ?_) (fun hc12 => ?_)
   ·skip
    refine cw_skip (nrm_same ?_)
    refine ⟨(decide (x.kind = 1)), ⟨rfl, trivial⟩, ⟨rfl, rfl, rfl, rfl, rfl, rfl, trivial⟩, (Evo.refl [] w37), ?_⟩
    simp only [decide_eq_true_eq]; omega
   ·skip
    refine cw_seq ?_
    refine cw_region ?_
    refine wl_val rfl (ex_eql rfl rfl) ?_
    refine wl_a ?_
    refine wl_nil (nrm_then ?_)
    refine cw_if rfl (fun hc12 => ?_) (fun hc12 => ?_)
    ·skip
     refine cw_skip (nrm_same ?_)
     refine ⟨(decide (x.kind = 8)), ⟨rfl, trivial⟩, ⟨rfl, rfl, rfl, rfl, rfl, rfl, trivial⟩, (Evo.refl [] w37), ?_⟩
     simp only [decide_eq_true_eq]; omega
    ·skip
     refine cw_seq ?_
     refine cw_region ?_
     refine wl_val rfl (ex_eql rfl rfl) ?_
     refine wl_a ?_
     refine wl_nil (nrm_then ?_)
     refine cw_if rfl (fun hc12 => ?_) (fun hc12 => ?_)
     ·skip
      refine cw_skip (nrm_same ?_)
      refine ⟨(decide (x.kind = 9)), ⟨rfl, trivial⟩, ⟨rfl, rfl, rfl, rfl, rfl, rfl, trivial⟩, (Evo.refl [] w37), ?_⟩
      simp only [decide_eq_true_eq]; omega
     ·skip
      refine cw_seq ?_
      refine cw_region ?_
      refine wl_val rfl (ex_eql rfl rfl) ?_
      refine wl_a ?_
      refine wl_nil (nrm_then ?_)
      refine cw_if rfl (fun hc12 => ?_) (fun hc12 => ?_)
      ·skip
       refine cw_skip (nrm_same ?_)
       refine ⟨(decide (x.kind = 10)), ⟨rfl, trivial⟩, ⟨rfl, rfl, rfl, rfl, rfl, rfl, trivial⟩, (Evo.refl [] w37), ?_⟩
       simp only [decide_eq_true_eq]; omega
      ·skip
       refine cw_seq ?_
       refine cw_region ?_
       refine wl_val rfl (ex_eql rfl rfl) ?_
       refine wl_a ?_
       refine wl_nil (nrm_then ?_)
       refine cw_if rfl (fun hc12 => ?_) (fun hc12 => ?_)
       ·skip
        refine cw_skip (nrm_same ?_)
        refine ⟨(decide (x.kind = 11)), ⟨rfl, trivial⟩, ⟨rfl, rfl, rfl, rfl, rfl, rfl, trivial⟩, (Evo.refl [] w37), ?_⟩
        simp only [decide_eq_true_eq]; omega
       ·skip
        refine cw_seq ?_
        refine cw_region ?_
        refine wl_val rfl (ex_eql rfl rfl) ?_
        refine wl_a ?_
        refine wl_nil (nrm_then ?_)
        refine cw_if rfl (fun hc12 => ?_) (fun hc12 => ?_)
        ·skip
         refine cw_skip (nrm_same ?_)
         refine ⟨(decide (x.kind = 12)), ⟨rfl, trivial⟩, ⟨rfl, rfl, rfl, rfl, rfl, rfl, trivial⟩, (Evo.refl [] w37), ?_⟩
         simp only [decide_eq_true_eq]; omega
        ·skip
         refine cw_region ?_
         refine wl_val rfl (ex_eql rfl rfl) ?_
         refine wl_a ?_
         refine wl_nil (nrm_same ?_)
         refine ⟨(decide (x.kind = 13)), ⟨rfl, trivial⟩, ⟨rfl, rfl, rfl, rfl, rfl, rfl, trivial⟩, (Evo.refl [] w37), ?_⟩
         simp only [decide_eq_true_eq]; omega
  ·skip
   rintro z w44 ⟨hV45, hz⟩
   refine nrm_then ?_
   show CW _ _ _ _ [(12, _), (0, _), (3, _), (4, _), (5, _), (6, _), (11, _)] _
   have hE46 := hE40.then hV45
   have hB47 := hV45.blk0 hB41
   have hO48 := hO42.evo0 hV45
   have hB49 := hV45.blk0 hB43
   have hB50 := hV45.blk0 hB38
   refine cw_ifb rfl (fun hc12 => ?_) (fun hc12 => ?_)
   ·skip
    subst hc12
    have hk12 := hz.1 rfl
    refine cw_skip (nrm_block (nrm_then ?_))
    refine cw_seq ?_
    refine cw_region ?_
    refine wl_val rfl (ex_fieldAddr rfl Try.fld25_8) ?_
    refine wl_val rfl (ex_load1 rfl Try.agg23 (cell_nth hB49 rfl)) ?_
    refine wl_val rfl (ex_len_slice rfl Try.underlying23 rfl) ?_
    refine wl_m ?_
    refine wl_val rfl (ex_eql rfl rfl) ?_
    refine wl_m ?_
    refine wl_split (t := 91) rfl (fun hs91 => ?_) (fun hs91 => ?_)
    ·skip
     refine wl_g ?_
     refine wl_val rfl (ex_fieldAddr rfl Try.fld25_1) ?_
     refine wl_g ?_
     refine wl_val rfl (ex_load1 rfl Try.agg21 (cell_nth hB50 rfl)) ?_
     refine wl_g ?_
     refine wl_val rfl (ex_eql rfl rfl) ?_
     refine wl_pt ?_
     refine wl_m ?_
     refine wl_split (t := 96) rfl (fun hs96 => ?_) (fun hs96 => ?_)
     ·skip
      refine wl_g ?_
      refine wl_val rfl (ex_fieldAddr rfl Try.fld25_2) ?_
      refine wl_g ?_
      refine wl_val rfl (ex_load1 rfl Try.agg22 (cell_nth hB50 rfl)) ?_
      refine wl_g ?_
      refine wl_val rfl (ex_len_slice rfl Try.underlying22 rfl) ?_
      refine wl_g ?_
      refine wl_val rfl (ex_eql rfl rfl) ?_
      refine wl_pt ?_
      refine wl_m ?_
      refine wl_split (t := 102) rfl (fun hs102 => ?_) (fun hs102 => ?_)
      ·skip
       refine wl_g ?_
       refine wl_val rfl (ex_fieldAddr rfl Try.fld25_3) ?_
       refine wl_g ?_
       refine wl_val rfl (ex_load1 rfl Try.agg3 (cell_nth hB50 rfl)) ?_
       refine wl_g ?_
       refine wl_val rfl (ex_eql rfl rfl) ?_
       refine wl_pt ?_
       refine wl_m ?_
       refine wl_split (t := 107) rfl (fun hs107 => ?_) (fun hs107 => ?_)
       ·skip
        refine wl_g ?_
        refine wl_val rfl (ex_fieldAddr rfl Try.fld25_4) ?_
        refine wl_g ?_
        refine wl_val rfl (ex_load1 rfl Try.agg3 (cell_nth hB50 rfl)) ?_
        refine wl_g ?_
        refine wl_val rfl (ex_eql rfl rfl) ?_
        refine wl_pt ?_
        refine wl_m ?_
        refine wl_split (t := 112) rfl (fun hs112 => ?_) (fun hs112 => ?_)
        ·skip
         refine wl_g ?_
         refine wl_val rfl (ex_fieldAddr rfl Try.fld25_5) ?_
         refine wl_g ?_
         refine wl_val rfl (ex_load1 rfl Try.agg4 (cell_nth hB50 rfl)) ?_
         refine wl_g ?_
         refine wl_val rfl (ex_notb rfl) ?_
         refine wl_pt ?_
         refine wl_m ?_
         refine wl_splitb (t := 117) rfl (fun hs117 => ?_) (fun hs117 => ?_)
         ·skip
          refine wl_g ?_
          refine wl_val rfl (ex_fieldAddr rfl Try.fld25_6) ?_
          refine wl_g ?_
          refine wl_val rfl (ex_load1 rfl Try.agg3 (cell_nth hB50 rfl)) ?_
          refine wl_g ?_
          refine wl_val rfl (ex_eql rfl rfl) ?_
          refine wl_pt ?_
          refine wl_m ?_
          refine wl_split (t := 122) rfl (fun hs122 => ?_) (fun hs122 => ?_)
          ·skip
           refine wl_g ?_
           refine wl_val rfl (ex_fieldAddr rfl Try.fld25_7) ?_
           refine wl_g ?_
           refine wl_val rfl (ex_load1 rfl Try.agg9 (cell_nth hB50 rfl)) ?_
           refine wl_g ?_
           refine wl_val rfl (ex_eqs rfl rfl) ?_
           refine wl_pt ?_
           refine wl_a ?_
           refine wl_nil (nrm_then ?_)
           refine cw_ret (body_ret1 rfl rfl ?_)
           have hlz : x.kind = 6 ∨ x.lazy = false := by first | (left; omega) | (right; simpa using hs117)
           refine ⟨_, rfl, ?_, hE46, fun hb => ?_⟩
           · simp only [decide_eq_true_eq]
             constructor
             · intro hnm
               exact ⟨(nodeP_iff x).2 (by constructor <;> first | omega | (right; assumption) | (left; omega) | exact hlz | exact .inr hnm | (intro hk; exact hcb.1 (by simpa using hc36)) | (intro hk; exfalso; omega)), by intro hk; exfalso; omega⟩
             · intro hh; obtain ⟨hh, hh2⟩ := hh; have hf := (nodeP_iff x).1 hh; exact hf.zn.resolve_left (by omega)
           · rw [if_neg (by omega)]; exact ⟨a, c, ob, ⟨hB47, hO48, hne⟩, .inl rfl⟩
          ·skip
           refine wl_n ?_
           refine wl_n ?_
           refine wl_n ?_
           refine wl_pf ?_
           refine wl_a ?_
           refine wl_nil (nrm_then ?_)
           refine cw_ret (body_ret1 rfl rfl ?_)
           exact ⟨false, rfl, by simp only [Bool.false_eq_true, false_iff]; intro hh; obtain ⟨hh, hh2⟩ := hh; have hf := (nodeP_iff x).1 hh; (have f1 := hf.zc; omega), hE46, fun h => by cases h⟩
         ·skip
          refine wl_n ?_
          refine wl_n ?_
          refine wl_n ?_
          refine wl_pf ?_
          refine wl_m ?_
          refine wl_n ?_
          refine wl_n ?_
          refine wl_n ?_
          refine wl_pf ?_
          refine wl_a ?_
          refine wl_nil (nrm_then ?_)
          refine cw_ret (body_ret1 rfl rfl ?_)
          exact ⟨false, rfl, by simp only [Bool.false_eq_true, false_iff]; intro hh; obtain ⟨hh, hh2⟩ := hh; have hf := (nodeP_iff x).1 hh; (first | (rcases hf.zl with h | h; omega; rw [h] at hs117; cases hs117; done) | cases hs117), hE46, fun h => by cases h⟩
        ·skip
         refine wl_n ?_
         refine wl_n ?_
         refine wl_n ?_
         refine wl_pf ?_
         refine wl_m ?_
         refine wl_n ?_
         refine wl_n ?_
         refine wl_n ?_
         refine wl_pf ?_
         refine wl_m ?_
         refine wl_n ?_
         refine wl_n ?_
         refine wl_n ?_
         refine wl_pf ?_
         refine wl_a ?_
         refine wl_nil (nrm_then ?_)
         refine cw_ret (body_ret1 rfl rfl ?_)
         exact ⟨false, rfl, by simp only [Bool.false_eq_true, false_iff]; intro hh; obtain ⟨hh, hh2⟩ := hh; have hf := (nodeP_iff x).1 hh; (have f1 := hf.zm2; omega), hE46, fun h => by cases h⟩
       ·skip
        refine wl_n ?_
        refine wl_n ?_
        refine wl_n ?_
        refine wl_pf ?_
        refine wl_m ?_
        refine wl_n ?_
        refine wl_n ?_
        refine wl_n ?_
        refine wl_pf ?_
        refine wl_m ?_
        refine wl_n ?_
        refine wl_n ?_
        refine wl_n ?_
        refine wl_pf ?_
        refine wl_m ?_
        refine wl_n ?_
        refine wl_n ?_
        refine wl_n ?_
        refine wl_pf ?_
        refine wl_a ?_
        refine wl_nil (nrm_then ?_)
        refine cw_ret (body_ret1 rfl rfl ?_)
        exact ⟨false, rfl, by simp only [Bool.false_eq_true, false_iff]; intro hh; obtain ⟨hh, hh2⟩ := hh; have hf := (nodeP_iff x).1 hh; (have f1 := hf.zm1; omega), hE46, fun h => by cases h⟩
      ·skip
       refine wl_n ?_
       refine wl_n ?_
       refine wl_n ?_
       refine wl_pf ?_
       refine wl_m ?_
       refine wl_n ?_
       refine wl_n ?_
       refine wl_n ?_
       refine wl_pf ?_
       refine wl_m ?_
       refine wl_n ?_
       refine wl_n ?_
       refine wl_n ?_
       refine wl_pf ?_
       refine wl_m ?_
       refine wl_n ?_
       refine wl_n ?_
       refine wl_n ?_
       refine wl_pf ?_
       refine wl_m ?_
       refine wl_n ?_
       refine wl_n ?_
       refine wl_n ?_
       refine wl_pf ?_
       refine wl_a ?_
       refine wl_nil (nrm_then ?_)
       refine cw_ret (body_ret1 rfl rfl ?_)
       exact ⟨false, rfl, by simp only [Bool.false_eq_true, false_iff]; intro hh; obtain ⟨hh, hh2⟩ := hh; have hf := (nodeP_iff x).1 hh; (have f1 := hf.zg; omega), hE46, fun h => by cases h⟩
     ·skip
      refine wl_n ?_
      refine wl_n ?_
      refine wl_n ?_
      refine wl_n ?_
      refine wl_pf ?_
      refine wl_m ?_
      refine wl_n ?_
      refine wl_n ?_
      refine wl_n ?_
      refine wl_pf ?_
      refine wl_m ?_
      refine wl_n ?_
      refine wl_n ?_
      refine wl_n ?_
      refine wl_pf ?_
      refine wl_m ?_
      refine wl_n ?_
      refine wl_n ?_
      refine wl_n ?_
      refine wl_pf ?_
      refine wl_m ?_
      refine wl_n ?_
      refine wl_n ?_
      refine wl_n ?_
      refine wl_pf ?_
      refine wl_m ?_
      refine wl_n ?_
      refine wl_n ?_
      refine wl_n ?_
      refine wl_pf ?_
      refine wl_a ?_
      refine wl_nil (nrm_then ?_)
      refine cw_ret (body_ret1 rfl rfl ?_)
      exact ⟨false, rfl, by simp only [Bool.false_eq_true, false_iff]; intro hh; obtain ⟨hh, hh2⟩ := hh; have hf := (nodeP_iff x).1 hh; (have f1 := hf.zr; omega), hE46, fun h => by cases h⟩
    ·skip
     refine wl_n ?_
     refine wl_n ?_
     refine wl_n ?_
     refine wl_pf ?_
     refine wl_m ?_
     refine wl_n ?_
     refine wl_n ?_
     refine wl_n ?_
     refine wl_n ?_
     refine wl_pf ?_
     refine wl_m ?_
     refine wl_n ?_
     refine wl_n ?_
     refine wl_n ?_
     refine wl_pf ?_
     refine wl_m ?_
     refine wl_n ?_
     refine wl_n ?_
     refine wl_n ?_
     refine wl_pf ?_
     refine wl_m ?_
     refine wl_n ?_
     refine wl_n ?_
     refine wl_n ?_
     refine wl_pf ?_
     refine wl_m ?_
     refine wl_n ?_
     refine wl_n ?_
     refine wl_n ?_
     refine wl_pf ?_
     refine wl_m ?_
     refine wl_n ?_
     refine wl_n ?_
     refine wl_n ?_
     refine wl_pf ?_
     refine wl_a ?_
     refine wl_nil (nrm_then ?_)
     refine cw_ret (body_ret1 rfl rfl ?_)
     exact ⟨false, rfl, by simp only [Bool.false_eq_true, false_iff]; intro hh; obtain ⟨hh, hh2⟩ := hh; have hf := (nodeP_iff x).1 hh; (have f1 := hf.two; have f2 := hf.rep4; have f3 := hf.grp; have f4 := hf.leaf; omega), hE46, fun h => by cases h⟩
   ·skip
    subst hc12
    have hk12 : ¬ (x.kind = 1 ∨ (8 ≤ x.kind ∧ x.kind ≤ 13)) := fun h => by have := hz.2 h; cases this
    refine cw_seq ?_
    refine cw_region ?_
    refine wl_val rfl (ex_eql rfl rfl) ?_
    refine wl_a ?_
    refine wl_nil (nrm_then ?_)
    refine cw_if rfl (fun hc20 => ?_) (fun hc20 => ?_)
    ·skip
     refine cw_seq ?_
     refine cw_seq ?_
     refine cw_region ?_
     refine wl_val rfl (ex_fieldAddr rfl Try.fld25_1) ?_
     refine wl_val rfl (ex_load1 rfl Try.agg21 (cell_nth hB49 rfl)) ?_
     refine wl_val rfl (ex_lss rfl rfl) ?_
     refine wl_m ?_
     refine wl_split (t := 25) rfl (fun hs25 => ?_) (fun hs25 => ?_)
     ·skip
      refine wl_n ?_
      refine wl_n ?_
      refine wl_n ?_
      refine wl_pt ?_
      refine wl_nil (nrm_then ?_)
      refine cw_true rfl ?_
      refine cw_seq ?_
      refine cw_region ?_
      refine wl_a ?_
      refine wl_nil (nrm_then ?_)
      refine cw_ret (ret_then (ret_block (ret_then (body_ret1 rfl rfl ?_))))
      exact ⟨false, rfl, by simp only [Bool.false_eq_true, false_iff]; intro hh; obtain ⟨hh, hh2⟩ := hh; have hf := (nodeP_iff x).1 hh; (have f1 := hf.lit1; have f2 := hf.lit2; omega), hE46, fun h => by cases h⟩
     ·skip
      refine wl_g ?_
      refine wl_val rfl (ex_fieldAddr rfl Try.fld25_1) ?_
      refine wl_g ?_
      refine wl_val rfl (ex_load1 rfl Try.agg21 (cell_nth hB49 rfl)) ?_
      refine wl_g ?_
      refine wl_val rfl (ex_gtr rfl rfl) ?_
      refine wl_pf ?_
      refine wl_nil (nrm_then ?_)
      refine cw_if rfl (fun hc29 => ?_) (fun hc29 => ?_)
      ·skip
       refine cw_seq ?_
       refine cw_region ?_
       refine wl_a ?_
       refine wl_nil (nrm_then ?_)
       refine cw_ret (ret_then (ret_block (ret_then (body_ret1 rfl rfl ?_))))
       exact ⟨false, rfl, by simp only [Bool.false_eq_true, false_iff]; intro hh; obtain ⟨hh, hh2⟩ := hh; have hf := (nodeP_iff x).1 hh; (have f1 := hf.lit1; have f2 := hf.lit2; omega), hE46, fun h => by cases h⟩
      ·skip
       refine cw_skip (nrm_then ?_)
       refine cw_region ?_
       refine wl_val rfl (ex_fieldAddr rfl Try.fld25_1) ?_
       refine wl_store1 rfl rfl (by first | rfl | assumption) Try.size21 hB50 rfl fun w51 hB52 hw53 => ?_
       have hE54 := hE46.step hw53 hG18.mem1
       have hB55 := hw53.blk hB47 hA15.nmem1
       have hO56 := hO48.evo hw53 hA16.own1
       have hB57 := hw53.blk hB49 hA17.nmem1
       try simp only [List.setIfInBounds_toArray, List.set_cons_zero, List.set_cons_succ, Nat.reduceAdd, Nat.zero_add, Nat.add_zero] at hB52
       refine wl_nil (nrm_block (nrm_then ?_))
       refine cw_seq ?_
       refine cw_region ?_
       refine wl_val rfl (ex_fieldAddr rfl Try.fld25_8) ?_
       refine wl_val rfl (ex_load1 rfl Try.agg23 (cell_nth hB57 rfl)) ?_
       refine wl_val rfl (ex_len_slice rfl Try.underlying23 rfl) ?_
       refine wl_m ?_
       refine wl_val rfl (ex_eql rfl rfl) ?_
       refine wl_m ?_
       refine wl_split (t := 91) rfl (fun hs91 => ?_) (fun hs91 => ?_)
       ·skip
        refine wl_g ?_
        refine wl_val rfl (ex_fieldAddr rfl Try.fld25_1) ?_
        refine wl_g ?_
        refine wl_val rfl (ex_load1 rfl Try.agg21 (cell_nth hB52 rfl)) ?_
        refine wl_g ?_
        refine wl_val rfl (ex_eql rfl rfl) ?_
        refine wl_pt ?_
        refine wl_m ?_
        refine wl_split (t := 96) rfl (fun hs96 => ?_) (fun hs96 => ?_)
        ·skip
         refine wl_g ?_
         refine wl_val rfl (ex_fieldAddr rfl Try.fld25_2) ?_
         refine wl_g ?_
         refine wl_val rfl (ex_load1 rfl Try.agg22 (cell_nth hB52 rfl)) ?_
         refine wl_g ?_
         refine wl_val rfl (ex_len_slice rfl Try.underlying22 rfl) ?_
         refine wl_g ?_
         refine wl_val rfl (ex_eql rfl rfl) ?_
         refine wl_pt ?_
         refine wl_m ?_
         refine wl_split (t := 102) rfl (fun hs102 => ?_) (fun hs102 => ?_)
         ·skip
          refine wl_g ?_
          refine wl_val rfl (ex_fieldAddr rfl Try.fld25_3) ?_
          refine wl_g ?_
          refine wl_val rfl (ex_load1 rfl Try.agg3 (cell_nth hB52 rfl)) ?_
          refine wl_g ?_
          refine wl_val rfl (ex_eql rfl rfl) ?_
          refine wl_pt ?_
          refine wl_m ?_
          refine wl_split (t := 107) rfl (fun hs107 => ?_) (fun hs107 => ?_)
          ·skip
           refine wl_g ?_
           refine wl_val rfl (ex_fieldAddr rfl Try.fld25_4) ?_
           refine wl_g ?_
           refine wl_val rfl (ex_load1 rfl Try.agg3 (cell_nth hB52 rfl)) ?_
           refine wl_g ?_
           refine wl_val rfl (ex_eql rfl rfl) ?_
           refine wl_pt ?_
           refine wl_m ?_
           refine wl_split (t := 112) rfl (fun hs112 => ?_) (fun hs112 => ?_)
           ·skip
            refine wl_g ?_
            refine wl_val rfl (ex_fieldAddr rfl Try.fld25_5) ?_
            refine wl_g ?_
            refine wl_val rfl (ex_load1 rfl Try.agg4 (cell_nth hB52 rfl)) ?_
            refine wl_g ?_
            refine wl_val rfl (ex_notb rfl) ?_
            refine wl_pt ?_
            refine wl_m ?_
            refine wl_splitb (t := 117) rfl (fun hs117 => ?_) (fun hs117 => ?_)
            ·skip
             refine wl_g ?_
             refine wl_val rfl (ex_fieldAddr rfl Try.fld25_6) ?_
             refine wl_g ?_
             refine wl_val rfl (ex_load1 rfl Try.agg3 (cell_nth hB52 rfl)) ?_
             refine wl_g ?_
             refine wl_val rfl (ex_eql rfl rfl) ?_
             refine wl_pt ?_
             refine wl_m ?_
             refine wl_split (t := 122) rfl (fun hs122 => ?_) (fun hs122 => ?_)
             ·skip
              refine wl_g ?_
              refine wl_val rfl (ex_fieldAddr rfl Try.fld25_7) ?_
              refine wl_g ?_
              refine wl_val rfl (ex_load1 rfl Try.agg9 (cell_nth hB52 rfl)) ?_
              refine wl_g ?_
              refine wl_val rfl (ex_eqs rfl rfl) ?_
              refine wl_pt ?_
              refine wl_a ?_
              refine wl_nil (nrm_then ?_)
              refine cw_ret (body_ret1 rfl rfl ?_)
              have hlz : x.kind = 6 ∨ x.lazy = false := by first | (left; omega) | (right; simpa using hs117)
              refine ⟨_, rfl, ?_, hE54, fun hb => ?_⟩
              · simp only [decide_eq_true_eq]
                constructor
                · intro hnm
                  exact ⟨(nodeP_iff x).2 (by constructor <;> first | omega | (right; assumption) | (left; omega) | exact hlz | exact .inr hnm | (intro hk; exact hcb.1 (by simpa using hc36)) | (intro hk; exfalso; omega)), by intro hk; exfalso; omega⟩
                · intro hh; obtain ⟨hh, hh2⟩ := hh; have hf := (nodeP_iff x).1 hh; exact hf.zn.resolve_left (by omega)
              · rw [if_neg (by omega)]; exact ⟨a, c, ob, ⟨hB55, hO56, hne⟩, .inl rfl⟩
             ·skip
              refine wl_n ?_
              refine wl_n ?_
              refine wl_n ?_
              refine wl_pf ?_
              refine wl_a ?_
              refine wl_nil (nrm_then ?_)
              refine cw_ret (body_ret1 rfl rfl ?_)
              exact ⟨false, rfl, by simp only [Bool.false_eq_true, false_iff]; intro hh; obtain ⟨hh, hh2⟩ := hh; have hf := (nodeP_iff x).1 hh; (have f1 := hf.zc; omega), hE54, fun h => by cases h⟩
            ·skip
             refine wl_n ?_
             refine wl_n ?_
             refine wl_n ?_
             refine wl_pf ?_
             refine wl_m ?_
             refine wl_n ?_
             refine wl_n ?_
             refine wl_n ?_
             refine wl_pf ?_
             refine wl_a ?_
             refine wl_nil (nrm_then ?_)
             refine cw_ret (body_ret1 rfl rfl ?_)
             exact ⟨false, rfl, by simp only [Bool.false_eq_true, false_iff]; intro hh; obtain ⟨hh, hh2⟩ := hh; have hf := (nodeP_iff x).1 hh; (first | (rcases hf.zl with h | h; omega; rw [h] at hs117; cases hs117; done) | cases hs117), hE54, fun h => by cases h⟩
           ·skip
            refine wl_n ?_
            refine wl_n ?_
            refine wl_n ?_
            refine wl_pf ?_
            refine wl_m ?_
            refine wl_n ?_
            refine wl_n ?_
            refine wl_n ?_
            refine wl_pf ?_
            refine wl_m ?_
            refine wl_n ?_
            refine wl_n ?_
            refine wl_n ?_
            refine wl_pf ?_
            refine wl_a ?_
            refine wl_nil (nrm_then ?_)
            refine cw_ret (body_ret1 rfl rfl ?_)
            exact ⟨false, rfl, by simp only [Bool.false_eq_true, false_iff]; intro hh; obtain ⟨hh, hh2⟩ := hh; have hf := (nodeP_iff x).1 hh; (have f1 := hf.zm2; omega), hE54, fun h => by cases h⟩
          ·skip
           refine wl_n ?_
           refine wl_n ?_
           refine wl_n ?_
           refine wl_pf ?_
           refine wl_m ?_
           refine wl_n ?_
           refine wl_n ?_
           refine wl_n ?_
           refine wl_pf ?_
           refine wl_m ?_
           refine wl_n ?_
           refine wl_n ?_
           refine wl_n ?_
           refine wl_pf ?_
           refine wl_m ?_
           refine wl_n ?_
           refine wl_n ?_
           refine wl_n ?_
           refine wl_pf ?_
           refine wl_a ?_
           refine wl_nil (nrm_then ?_)
           refine cw_ret (body_ret1 rfl rfl ?_)
           exact ⟨false, rfl, by simp only [Bool.false_eq_true, false_iff]; intro hh; obtain ⟨hh, hh2⟩ := hh; have hf := (nodeP_iff x).1 hh; (have f1 := hf.zm1; omega), hE54, fun h => by cases h⟩
         ·skip
          refine wl_n ?_
          refine wl_n ?_
          refine wl_n ?_
          refine wl_pf ?_
          refine wl_m ?_
          refine wl_n ?_
          refine wl_n ?_
          refine wl_n ?_
          refine wl_pf ?_
          refine wl_m ?_
          refine wl_n ?_
          refine wl_n ?_
          refine wl_n ?_
          refine wl_pf ?_
          refine wl_m ?_
          refine wl_n ?_
          refine wl_n ?_
          refine wl_n ?_
          refine wl_pf ?_
          refine wl_m ?_
          refine wl_n ?_
          refine wl_n ?_
          refine wl_n ?_
          refine wl_pf ?_
          refine wl_a ?_
          refine wl_nil (nrm_then ?_)
          refine cw_ret (body_ret1 rfl rfl ?_)
          exact ⟨false, rfl, by simp only [Bool.false_eq_true, false_iff]; intro hh; obtain ⟨hh, hh2⟩ := hh; have hf := (nodeP_iff x).1 hh; (have f1 := hf.zg; omega), hE54, fun h => by cases h⟩
        ·skip
         refine wl_n ?_
         refine wl_n ?_
         refine wl_n ?_
         refine wl_n ?_
         refine wl_pf ?_
         refine wl_m ?_
         refine wl_n ?_
         refine wl_n ?_
         refine wl_n ?_
         refine wl_pf ?_
         refine wl_m ?_
         refine wl_n ?_
         refine wl_n ?_
         refine wl_n ?_
         refine wl_pf ?_
         refine wl_m ?_
         refine wl_n ?_
         refine wl_n ?_
         refine wl_n ?_
         refine wl_pf ?_
         refine wl_m ?_
         refine wl_n ?_
         refine wl_n ?_
         refine wl_n ?_
         refine wl_pf ?_
         refine wl_m ?_
         refine wl_n ?_
         refine wl_n ?_
         refine wl_n ?_
         refine wl_pf ?_
         refine wl_a ?_
         refine wl_nil (nrm_then ?_)
         refine cw_ret (body_ret1 rfl rfl ?_)
         exact ⟨false, rfl, by simp only [Bool.false_eq_true, false_iff]; intro hh; obtain ⟨hh, hh2⟩ := hh; have hf := (nodeP_iff x).1 hh; (have f1 := hf.zr; omega), hE54, fun h => by cases h⟩
       ·skip
        refine wl_n ?_
        refine wl_n ?_
        refine wl_n ?_
        refine wl_pf ?_
        refine wl_m ?_
        refine wl_n ?_
        refine wl_n ?_
        refine wl_n ?_
        refine wl_n ?_
        refine wl_pf ?_
        refine wl_m ?_
        refine wl_n ?_
        refine wl_n ?_
        refine wl_n ?_
        refine wl_pf ?_
        refine wl_m ?_
        refine wl_n ?_
        refine wl_n ?_
        refine wl_n ?_
        refine wl_pf ?_
        refine wl_m ?_
        refine wl_n ?_
        refine wl_n ?_
        refine wl_n ?_
        refine wl_pf ?_
        refine wl_m ?_
        refine wl_n ?_
        refine wl_n ?_
        refine wl_n ?_
        refine wl_pf ?_
        refine wl_m ?_
        refine wl_n ?_
        refine wl_n ?_
        refine wl_n ?_
        refine wl_pf ?_
        refine wl_a ?_
        refine wl_nil (nrm_then ?_)
        refine cw_ret (body_ret1 rfl rfl ?_)
        exact ⟨false, rfl, by simp only [Bool.false_eq_true, false_iff]; intro hh; obtain ⟨hh, hh2⟩ := hh; have hf := (nodeP_iff x).1 hh; (have f1 := hf.two; have f2 := hf.rep4; have f3 := hf.grp; have f4 := hf.leaf; omega), hE54, fun h => by cases h⟩
    ·skip
     refine cw_seq ?_
     refine cw_region ?_
     refine wl_val rfl (ex_eql rfl rfl) ?_
     refine wl_a ?_
     refine wl_nil (nrm_then ?_)
     refine cw_if rfl (fun hc31 => ?_) (fun hc31 => ?_)
     ·skip
      refine cw_seq ?_
      refine cw_seq ?_
      refine cw_region ?_
      refine wl_val rfl (ex_fieldAddr rfl Try.fld25_2) ?_
      refine wl_val rfl (ex_load1 rfl Try.agg22 (cell_nth hB49 rfl)) ?_
      refine wl_call1 (vs := [_]) Try.goes78 rfl (classFine_ok (RSl.evo RRg.pers hE46 hr0) bl1) rfl ?_
      rintro _ w58 ⟨cb, rfl, hcb, hw59⟩
      have hE60 := hE46.then hw59
      have hB61 := hw59.blk0 hB47
      have hO62 := hO48.evo0 hw59
      have hB63 := hw59.blk0 hB49
      have hB64 := hw59.blk0 hB50
      refine wl_val rfl (ex_notb rfl) ?_
      refine wl_nil (nrm_then ?_)
      refine cw_ifb rfl (fun hc36 => ?_) (fun hc36 => ?_)
      ·skip
       refine cw_seq ?_
       refine cw_region ?_
       refine wl_a ?_
       refine wl_nil (nrm_then ?_)
       refine cw_ret (ret_then (ret_block (ret_then (body_ret1 rfl rfl ?_))))
       exact ⟨false, rfl, by simp only [Bool.false_eq_true, false_iff]; intro hh; obtain ⟨hh, hh2⟩ := hh; have hf := (nodeP_iff x).1 hh; (rw [hcb.2 (hf.cls (by omega))] at hc36; cases hc36), hE60, fun h => by cases h⟩
      ·skip
       refine cw_skip (nrm_then ?_)
       refine cw_region ?_
       refine wl_val rfl (ex_fieldAddr rfl Try.fld25_2) ?_
       refine wl_store1 rfl rfl (by first | rfl | assumption) Try.size22 hB64 rfl fun w65 hB66 hw67 => ?_
       have hE68 := hE60.step hw67 hG18.mem1
       have hB69 := hw67.blk hB61 hA15.nmem1
       have hO70 := hO62.evo hw67 hA16.own1
       have hB71 := hw67.blk hB63 hA17.nmem1
       try simp only [List.setIfInBounds_toArray, List.set_cons_zero, List.set_cons_succ, Nat.reduceAdd, Nat.zero_add, Nat.add_zero] at hB66
       refine wl_nil (nrm_block (nrm_then ?_))
       refine cw_seq ?_
       refine cw_region ?_
       refine wl_val rfl (ex_fieldAddr rfl Try.fld25_8) ?_
       refine wl_val rfl (ex_load1 rfl Try.agg23 (cell_nth hB71 rfl)) ?_
       refine wl_val rfl (ex_len_slice rfl Try.underlying23 rfl) ?_
       refine wl_m ?_
       refine wl_val rfl (ex_eql rfl rfl) ?_
       refine wl_m ?_
       refine wl_split (t := 91) rfl (fun hs91 => ?_) (fun hs91 => ?_)
       ·skip
        refine wl_g ?_
        refine wl_val rfl (ex_fieldAddr rfl Try.fld25_1) ?_
        refine wl_g ?_
        refine wl_val rfl (ex_load1 rfl Try.agg21 (cell_nth hB66 rfl)) ?_
        refine wl_g ?_
        refine wl_val rfl (ex_eql rfl rfl) ?_
        refine wl_pt ?_
        refine wl_m ?_
        refine wl_split (t := 96) rfl (fun hs96 => ?_) (fun hs96 => ?_)
        ·skip
         refine wl_g ?_
         refine wl_val rfl (ex_fieldAddr rfl Try.fld25_2) ?_
         refine wl_g ?_
         refine wl_val rfl (ex_load1 rfl Try.agg22 (cell_nth hB66 rfl)) ?_
         refine wl_g ?_
         refine wl_val rfl (ex_len_slice rfl Try.underlying22 rfl) ?_
         refine wl_g ?_
         refine wl_val rfl (ex_eql rfl rfl) ?_
         refine wl_pt ?_
         refine wl_m ?_
         refine wl_split (t := 102) rfl (fun hs102 => ?_) (fun hs102 => ?_)
         ·skip
          refine wl_g ?_
          refine wl_val rfl (ex_fieldAddr rfl Try.fld25_3) ?_
          refine wl_g ?_
          refine wl_val rfl (ex_load1 rfl Try.agg3 (cell_nth hB66 rfl)) ?_
          refine wl_g ?_
          refine wl_val rfl (ex_eql rfl rfl) ?_
          refine wl_pt ?_
          refine wl_m ?_
          refine wl_split (t := 107) rfl (fun hs107 => ?_) (fun hs107 => ?_)
          ·skip
           refine wl_g ?_
           refine wl_val rfl (ex_fieldAddr rfl Try.fld25_4) ?_
           refine wl_g ?_
           refine wl_val rfl (ex_load1 rfl Try.agg3 (cell_nth hB66 rfl)) ?_
           refine wl_g ?_
           refine wl_val rfl (ex_eql rfl rfl) ?_
           refine wl_pt ?_
           refine wl_m ?_
           refine wl_split (t := 112) rfl (fun hs112 => ?_) (fun hs112 => ?_)
           ·skip
            refine wl_g ?_
            refine wl_val rfl (ex_fieldAddr rfl Try.fld25_5) ?_
            refine wl_g ?_
            refine wl_val rfl (ex_load1 rfl Try.agg4 (cell_nth hB66 rfl)) ?_
            refine wl_g ?_
            refine wl_val rfl (ex_notb rfl) ?_
            refine wl_pt ?_
            refine wl_m ?_
            refine wl_splitb (t := 117) rfl (fun hs117 => ?_) (fun hs117 => ?_)
            ·skip
             refine wl_g ?_
             refine wl_val rfl (ex_fieldAddr rfl Try.fld25_6) ?_
             refine wl_g ?_
             refine wl_val rfl (ex_load1 rfl Try.agg3 (cell_nth hB66 rfl)) ?_
             refine wl_g ?_
             refine wl_val rfl (ex_eql rfl rfl) ?_
             refine wl_pt ?_
             refine wl_m ?_
             refine wl_split (t := 122) rfl (fun hs122 => ?_) (fun hs122 => ?_)
             ·skip
              refine wl_g ?_
              refine wl_val rfl (ex_fieldAddr rfl Try.fld25_7) ?_
              refine wl_g ?_
              refine wl_val rfl (ex_load1 rfl Try.agg9 (cell_nth hB66 rfl)) ?_
              refine wl_g ?_
              refine wl_val rfl (ex_eqs rfl rfl) ?_
              refine wl_pt ?_
              refine wl_a ?_
              refine wl_nil (nrm_then ?_)
              refine cw_ret (body_ret1 rfl rfl ?_)
              have hlz : x.kind = 6 ∨ x.lazy = false := by first | (left; omega) | (right; simpa using hs117)
              refine ⟨_, rfl, ?_, hE68, fun hb => ?_⟩
              · simp only [decide_eq_true_eq]
                constructor
                · intro hnm
                  exact ⟨(nodeP_iff x).2 (by constructor <;> first | omega | (right; assumption) | (left; omega) | exact hlz | exact .inr hnm | (intro hk; exact hcb.1 (by simpa using hc36)) | (intro hk; exfalso; omega)), by intro hk; exfalso; omega⟩
                · intro hh; obtain ⟨hh, hh2⟩ := hh; have hf := (nodeP_iff x).1 hh; exact hf.zn.resolve_left (by omega)
              · rw [if_neg (by omega)]; exact ⟨a, c, ob, ⟨hB69, hO70, hne⟩, .inl rfl⟩
             ·skip
              refine wl_n ?_
              refine wl_n ?_
              refine wl_n ?_
              refine wl_pf ?_
              refine wl_a ?_
              refine wl_nil (nrm_then ?_)
              refine cw_ret (body_ret1 rfl rfl ?_)
              exact ⟨false, rfl, by simp only [Bool.false_eq_true, false_iff]; intro hh; obtain ⟨hh, hh2⟩ := hh; have hf := (nodeP_iff x).1 hh; (have f1 := hf.zc; omega), hE68, fun h => by cases h⟩
            ·skip
             refine wl_n ?_
             refine wl_n ?_
             refine wl_n ?_
             refine wl_pf ?_
             refine wl_m ?_
             refine wl_n ?_
             refine wl_n ?_
             refine wl_n ?_
             refine wl_pf ?_
             refine wl_a ?_
             refine wl_nil (nrm_then ?_)
             refine cw_ret (body_ret1 rfl rfl ?_)
             exact ⟨false, rfl, by simp only [Bool.false_eq_true, false_iff]; intro hh; obtain ⟨hh, hh2⟩ := hh; have hf := (nodeP_iff x).1 hh; (first | (rcases hf.zl with h | h; omega; rw [h] at hs117; cases hs117; done) | cases hs117), hE68, fun h => by cases h⟩
           ·skip
            refine wl_n ?_
            refine wl_n ?_
            refine wl_n ?_
            refine wl_pf ?_
            refine wl_m ?_
            refine wl_n ?_
            refine wl_n ?_
            refine wl_n ?_
            refine wl_pf ?_
            refine wl_m ?_
            refine wl_n ?_
            refine wl_n ?_
            refine wl_n ?_
            refine wl_pf ?_
            refine wl_a ?_
            refine wl_nil (nrm_then ?_)
            refine cw_ret (body_ret1 rfl rfl ?_)
            exact ⟨false, rfl, by simp only [Bool.false_eq_true, false_iff]; intro hh; obtain ⟨hh, hh2⟩ := hh; have hf := (nodeP_iff x).1 hh; (have f1 := hf.zm2; omega), hE68, fun h => by cases h⟩
          ·skip
           refine wl_n ?_
           refine wl_n ?_
           refine wl_n ?_
           refine wl_pf ?_
           refine wl_m ?_
           refine wl_n ?_
           refine wl_n ?_
           refine wl_n ?_
           refine wl_pf ?_
           refine wl_m ?_
           refine wl_n ?_
           refine wl_n ?_
           refine wl_n ?_
           refine wl_pf ?_
           refine wl_m ?_
           refine wl_n ?_
           refine wl_n ?_
           refine wl_n ?_
           refine wl_pf ?_
           refine wl_a ?_
           refine wl_nil (nrm_then ?_)
           refine cw_ret (body_ret1 rfl rfl ?_)
           exact ⟨false, rfl, by simp only [Bool.false_eq_true, false_iff]; intro hh; obtain ⟨hh, hh2⟩ := hh; have hf := (nodeP_iff x).1 hh; (have f1 := hf.zm1; omega), hE68, fun h => by cases h⟩
         ·skip
          refine wl_n ?_
          refine wl_n ?_
          refine wl_n ?_
          refine wl_pf ?_
          refine wl_m ?_
          refine wl_n ?_
          refine wl_n ?_
          refine wl_n ?_
          refine wl_pf ?_
          refine wl_m ?_
          refine wl_n ?_
          refine wl_n ?_
          refine wl_n ?_
          refine wl_pf ?_
          refine wl_m ?_
          refine wl_n ?_
          refine wl_n ?_
          refine wl_n ?_
          refine wl_pf ?_
          refine wl_m ?_
          refine wl_n ?_
          refine wl_n ?_
          refine wl_n ?_
          refine wl_pf ?_
          refine wl_a ?_
          refine wl_nil (nrm_then ?_)
          refine cw_ret (body_ret1 rfl rfl ?_)
          exact ⟨false, rfl, by simp only [Bool.false_eq_true, false_iff]; intro hh; obtain ⟨hh, hh2⟩ := hh; have hf := (nodeP_iff x).1 hh; (have f1 := hf.zg; omega), hE68, fun h => by cases h⟩
        ·skip
         refine wl_n ?_
         refine wl_n ?_
         refine wl_n ?_
         refine wl_n ?_
         refine wl_pf ?_
         refine wl_m ?_
         refine wl_n ?_
         refine wl_n ?_
         refine wl_n ?_
         refine wl_pf ?_
         refine wl_m ?_
         refine wl_n ?_
         refine wl_n ?_
         refine wl_n ?_
         refine wl_pf ?_
         refine wl_m ?_
         refine wl_n ?_
         refine wl_n ?_
         refine wl_n ?_
         refine wl_pf ?_
         refine wl_m ?_
         refine wl_n ?_
         refine wl_n ?_
         refine wl_n ?_
         refine wl_pf ?_
         refine wl_m ?_
         refine wl_n ?_
         refine wl_n ?_
         refine wl_n ?_
         refine wl_pf ?_
         refine wl_a ?_
         refine wl_nil (nrm_then ?_)
         refine cw_ret (body_ret1 rfl rfl ?_)
         exact ⟨false, rfl, by simp only [Bool.false_eq_true, false_iff]; intro hh; obtain ⟨hh, hh2⟩ := hh; have hf := (nodeP_iff x).1 hh; (have f1 := hf.zr; omega), hE68, fun h => by cases h⟩
       ·skip
        refine wl_n ?_
        refine wl_n ?_
        refine wl_n ?_
        refine wl_pf ?_
        refine wl_m ?_
        refine wl_n ?_
        refine wl_n ?_
        refine wl_n ?_
        refine wl_n ?_
        refine wl_pf ?_
        refine wl_m ?_
        refine wl_n ?_
        refine wl_n ?_
        refine wl_n ?_
        refine wl_pf ?_
        refine wl_m ?_
        refine wl_n ?_
        refine wl_n ?_
        refine wl_n ?_
        refine wl_pf ?_
        refine wl_m ?_
        refine wl_n ?_
        refine wl_n ?_
        refine wl_n ?_
        refine wl_pf ?_
        refine wl_m ?_
        refine wl_n ?_
        refine wl_n ?_
        refine wl_n ?_
        refine wl_pf ?_
        refine wl_m ?_
        refine wl_n ?_
        refine wl_n ?_
        refine wl_n ?_
        refine wl_pf ?_
        refine wl_a ?_
        refine wl_nil (nrm_then ?_)
        refine cw_ret (body_ret1 rfl rfl ?_)
        exact ⟨false, rfl, by simp only [Bool.false_eq_true, false_iff]; intro hh; obtain ⟨hh, hh2⟩ := hh; have hf := (nodeP_iff x).1 hh; (have f1 := hf.two; have f2 := hf.rep4; have f3 := hf.grp; have f4 := hf.leaf; omega), hE68, fun h => by cases h⟩
     ·skip
      refine cw_seq ?_
      refine cw_seq ?_
      refine cw_region ?_
      refine wl_val rfl (ex_eql rfl rfl) ?_
      refine wl_a ?_
      refine wl_nil (nrm_then ?_)
      refine cw_if rfl (fun hc38 => ?_) (fun hc38 => ?_)
      ·skip
       refine cw_skip (nrm_then ?_)
       refine cw_if rfl (fun hc38 => ?_) (fun hc38 => ?_)
       ·skip
        refine cw_region ?_
        refine wl_val rfl (ex_fieldAddr rfl Try.fld25_8) ?_
        refine wl_val rfl (ex_load1 rfl Try.agg23 (cell_nth hB49 rfl)) ?_
        refine wl_val rfl (ex_len_slice rfl Try.underlying23 rfl) ?_
        refine wl_val rfl (ex_max rfl rfl) ?_
        refine wl_a ?_
        refine wl_nil (nrm_block (nrm_then ?_))
        refine cw_seq ?_
        refine cw_region ?_
        refine wl_val rfl (ex_fieldAddr rfl Try.fld25_8) ?_
        refine wl_val rfl (ex_load1 rfl Try.agg23 (cell_nth hB49 rfl)) ?_
        refine wl_val rfl (ex_len_slice rfl Try.underlying23 rfl) ?_
        refine wl_m ?_
        refine wl_val rfl (ex_eql rfl rfl) ?_
        refine wl_m ?_
        refine wl_split (t := 91) rfl (fun hs91 => ?_) (fun hs91 => ?_)
        ·skip
         refine wl_g ?_
         refine wl_val rfl (ex_fieldAddr rfl Try.fld25_1) ?_
         refine wl_g ?_
         refine wl_val rfl (ex_load1 rfl Try.agg21 (cell_nth hB50 rfl)) ?_
         refine wl_g ?_
         refine wl_val rfl (ex_eql rfl rfl) ?_
         refine wl_pt ?_
         refine wl_m ?_
         refine wl_split (t := 96) rfl (fun hs96 => ?_) (fun hs96 => ?_)
         ·skip
          refine wl_g ?_
          refine wl_val rfl (ex_fieldAddr rfl Try.fld25_2) ?_
          refine wl_g ?_
          refine wl_val rfl (ex_load1 rfl Try.agg22 (cell_nth hB50 rfl)) ?_
          refine wl_g ?_
          refine wl_val rfl (ex_len_slice rfl Try.underlying22 rfl) ?_
          refine wl_g ?_
          refine wl_val rfl (ex_eql rfl rfl) ?_
          refine wl_pt ?_
          refine wl_m ?_
          refine wl_split (t := 102) rfl (fun hs102 => ?_) (fun hs102 => ?_)
          ·skip
           refine wl_g ?_
           refine wl_val rfl (ex_fieldAddr rfl Try.fld25_3) ?_
           refine wl_g ?_
           refine wl_val rfl (ex_load1 rfl Try.agg3 (cell_nth hB50 rfl)) ?_
           refine wl_g ?_
           refine wl_val rfl (ex_eql rfl rfl) ?_
           refine wl_pt ?_
           refine wl_m ?_
           refine wl_split (t := 107) rfl (fun hs107 => ?_) (fun hs107 => ?_)
           ·skip
            refine wl_g ?_
            refine wl_val rfl (ex_fieldAddr rfl Try.fld25_4) ?_
            refine wl_g ?_
            refine wl_val rfl (ex_load1 rfl Try.agg3 (cell_nth hB50 rfl)) ?_
            refine wl_g ?_
            refine wl_val rfl (ex_eql rfl rfl) ?_
            refine wl_pt ?_
            refine wl_m ?_
            refine wl_split (t := 112) rfl (fun hs112 => ?_) (fun hs112 => ?_)
            ·skip
             refine wl_g ?_
             refine wl_val rfl (ex_fieldAddr rfl Try.fld25_5) ?_
             refine wl_g ?_
             refine wl_val rfl (ex_load1 rfl Try.agg4 (cell_nth hB50 rfl)) ?_
             refine wl_g ?_
             refine wl_val rfl (ex_notb rfl) ?_
             refine wl_pt ?_
             refine wl_m ?_
             refine wl_splitb (t := 117) rfl (fun hs117 => ?_) (fun hs117 => ?_)
             ·skip
              refine wl_g ?_
              refine wl_val rfl (ex_fieldAddr rfl Try.fld25_6) ?_
              refine wl_g ?_
              refine wl_val rfl (ex_load1 rfl Try.agg3 (cell_nth hB50 rfl)) ?_
              refine wl_g ?_
              refine wl_val rfl (ex_eql rfl rfl) ?_
              refine wl_pt ?_
              refine wl_m ?_
              refine wl_split (t := 122) rfl (fun hs122 => ?_) (fun hs122 => ?_)
              ·skip
               refine wl_g ?_
               refine wl_val rfl (ex_fieldAddr rfl Try.fld25_7) ?_
               refine wl_g ?_
               refine wl_val rfl (ex_load1 rfl Try.agg9 (cell_nth hB50 rfl)) ?_
               refine wl_g ?_
               refine wl_val rfl (ex_eqs rfl rfl) ?_
               refine wl_pt ?_
               refine wl_a ?_
               refine wl_nil (nrm_then ?_)
               refine cw_ret (body_ret1 rfl rfl ?_)
               have hlz : x.kind = 6 ∨ x.lazy = false := by first | (left; omega) | (right; simpa using hs117)
               refine ⟨_, rfl, ?_, hE46, fun hb => ?_⟩
               · simp only [decide_eq_true_eq]
                 constructor
                 · intro hnm
                   exact ⟨(nodeP_iff x).2 (by constructor <;> first | omega | (right; assumption) | (left; omega) | exact hlz | exact .inr hnm | (intro hk; exact hcb.1 (by simpa using hc36)) | (intro hk; exfalso; omega)), by intro hk; exfalso; omega⟩
                 · intro hh; obtain ⟨hh, hh2⟩ := hh; have hf := (nodeP_iff x).1 hh; exact hf.zn.resolve_left (by omega)
               · rw [if_neg (by omega)]; exact ⟨a, c, ob, ⟨hB47, hO48, hne⟩, .inl rfl⟩
              ·skip
               refine wl_n ?_
               refine wl_n ?_
               refine wl_n ?_
               refine wl_pf ?_
               refine wl_a ?_
               refine wl_nil (nrm_then ?_)
               refine cw_ret (body_ret1 rfl rfl ?_)
               exact ⟨false, rfl, by simp only [Bool.false_eq_true, false_iff]; intro hh; obtain ⟨hh, hh2⟩ := hh; have hf := (nodeP_iff x).1 hh; (have f1 := hf.zc; omega), hE46, fun h => by cases h⟩
             ·skip
              refine wl_n ?_
              refine wl_n ?_
              refine wl_n ?_
              refine wl_pf ?_
              refine wl_m ?_
              refine wl_n ?_
              refine wl_n ?_
              refine wl_n ?_
              refine wl_pf ?_
              refine wl_a ?_
              refine wl_nil (nrm_then ?_)
              refine cw_ret (body_ret1 rfl rfl ?_)
              exact ⟨false, rfl, by simp only [Bool.false_eq_true, false_iff]; intro hh; obtain ⟨hh, hh2⟩ := hh; have hf := (nodeP_iff x).1 hh; (first | (rcases hf.zl with h | h; omega; rw [h] at hs117; cases hs117; done) | cases hs117), hE46, fun h => by cases h⟩
            ·skip
             refine wl_n ?_
             refine wl_n ?_
             refine wl_n ?_
             refine wl_pf ?_
             refine wl_m ?_
             refine wl_n ?_
             refine wl_n ?_
             refine wl_n ?_
             refine wl_pf ?_
             refine wl_m ?_
             refine wl_n ?_
             refine wl_n ?_
             refine wl_n ?_
             refine wl_pf ?_
             refine wl_a ?_
             refine wl_nil (nrm_then ?_)
             refine cw_ret (body_ret1 rfl rfl ?_)
             exact ⟨false, rfl, by simp only [Bool.false_eq_true, false_iff]; intro hh; obtain ⟨hh, hh2⟩ := hh; have hf := (nodeP_iff x).1 hh; (have f1 := hf.zm2; omega), hE46, fun h => by cases h⟩
           ·skip
            refine wl_n ?_
            refine wl_n ?_
            refine wl_n ?_
            refine wl_pf ?_
            refine wl_m ?_
            refine wl_n ?_
            refine wl_n ?_
            refine wl_n ?_
            refine wl_pf ?_
            refine wl_m ?_
            refine wl_n ?_
            refine wl_n ?_
            refine wl_n ?_
            refine wl_pf ?_
            refine wl_m ?_
            refine wl_n ?_
            refine wl_n ?_
            refine wl_n ?_
            refine wl_pf ?_
            refine wl_a ?_
            refine wl_nil (nrm_then ?_)
            refine cw_ret (body_ret1 rfl rfl ?_)
            exact ⟨false, rfl, by simp only [Bool.false_eq_true, false_iff]; intro hh; obtain ⟨hh, hh2⟩ := hh; have hf := (nodeP_iff x).1 hh; (have f1 := hf.zm1; omega), hE46, fun h => by cases h⟩
          ·skip
           refine wl_n ?_
           refine wl_n ?_
           refine wl_n ?_
           refine wl_pf ?_
           refine wl_m ?_
           refine wl_n ?_
           refine wl_n ?_
           refine wl_n ?_
           refine wl_pf ?_
           refine wl_m ?_
           refine wl_n ?_
           refine wl_n ?_
           refine wl_n ?_
           refine wl_pf ?_
           refine wl_m ?_
           refine wl_n ?_
           refine wl_n ?_
           refine wl_n ?_
           refine wl_pf ?_
           refine wl_m ?_
           refine wl_n ?_
           refine wl_n ?_
           refine wl_n ?_
           refine wl_pf ?_
           refine wl_a ?_
           refine wl_nil (nrm_then ?_)
           refine cw_ret (body_ret1 rfl rfl ?_)
           exact ⟨false, rfl, by simp only [Bool.false_eq_true, false_iff]; intro hh; obtain ⟨hh, hh2⟩ := hh; have hf := (nodeP_iff x).1 hh; (have f1 := hf.zg; omega), hE46, fun h => by cases h⟩
         ·skip
          refine wl_n ?_
          refine wl_n ?_
          refine wl_n ?_
          refine wl_n ?_
          refine wl_pf ?_
          refine wl_m ?_
          refine wl_n ?_
          refine wl_n ?_
          refine wl_n ?_
          refine wl_pf ?_
          refine wl_m ?_
          refine wl_n ?_
          refine wl_n ?_
          refine wl_n ?_
          refine wl_pf ?_
          refine wl_m ?_
          refine wl_n ?_
          refine wl_n ?_
          refine wl_n ?_
          refine wl_pf ?_
          refine wl_m ?_
          refine wl_n ?_
          refine wl_n ?_
          refine wl_n ?_
          refine wl_pf ?_
          refine wl_m ?_
          refine wl_n ?_
          refine wl_n ?_
          refine wl_n ?_
          refine wl_pf ?_
          refine wl_a ?_
          refine wl_nil (nrm_then ?_)
          refine cw_ret (body_ret1 rfl rfl ?_)
          exact ⟨false, rfl, by simp only [Bool.false_eq_true, false_iff]; intro hh; obtain ⟨hh, hh2⟩ := hh; have hf := (nodeP_iff x).1 hh; (have f1 := hf.zr; omega), hE46, fun h => by cases h⟩
        ·skip
         refine wl_n ?_
         refine wl_n ?_
         refine wl_n ?_
         refine wl_pf ?_
         refine wl_m ?_
         refine wl_n ?_
         refine wl_n ?_
         refine wl_n ?_
         refine wl_n ?_
         refine wl_pf ?_
         refine wl_m ?_
         refine wl_n ?_
         refine wl_n ?_
         refine wl_n ?_
         refine wl_pf ?_
         refine wl_m ?_
         refine wl_n ?_
         refine wl_n ?_
         refine wl_n ?_
         refine wl_pf ?_
         refine wl_m ?_
         refine wl_n ?_
         refine wl_n ?_
         refine wl_n ?_
         refine wl_pf ?_
         refine wl_m ?_
         refine wl_n ?_
         refine wl_n ?_
         refine wl_n ?_
         refine wl_pf ?_
         refine wl_m ?_
         refine wl_n ?_
         refine wl_n ?_
         refine wl_n ?_
         refine wl_pf ?_
         refine wl_a ?_
         refine wl_nil (nrm_then ?_)
         refine cw_ret (body_ret1 rfl rfl ?_)
         exact ⟨false, rfl, by simp only [Bool.false_eq_true, false_iff]; intro hh; obtain ⟨hh, hh2⟩ := hh; have hf := (nodeP_iff x).1 hh; (have f1 := hf.two; have f2 := hf.rep4; have f3 := hf.grp; have f4 := hf.leaf; omega), hE46, fun h => by cases h⟩
       ·skip
        refine cw_seq ?_
        refine cw_region ?_
        refine wl_val rfl (ex_eql rfl rfl) ?_
        refine wl_a ?_
        refine wl_nil (nrm_then ?_)
        refine cw_if rfl (fun hc45 => ?_) (fun hc45 => ?_)
        ·skip
         refine cw_seq ?_
         refine cw_seq ?_
         refine cw_region ?_
         refine wl_val rfl (ex_fieldAddr rfl Try.fld25_3) ?_
         refine wl_val rfl (ex_load1 rfl Try.agg3 (cell_nth hB49 rfl)) ?_
         refine wl_val rfl (ex_lss rfl rfl) ?_
         refine wl_m ?_
         refine wl_split (t := 50) rfl (fun hs50 => ?_) (fun hs50 => ?_)
         ·skip
          refine wl_n ?_
          refine wl_n ?_
          refine wl_n ?_
          refine wl_pt ?_
          refine wl_m ?_
          refine wl_n ?_
          refine wl_n ?_
          refine wl_n ?_
          refine wl_n ?_
          refine wl_u ?_
          refine wl_u ?_
          refine wl_u ?_
          refine wl_u ?_
          refine wl_u ?_
          refine wl_u ?_
          refine wl_u ?_
          refine wl_u ?_
          refine wl_u ?_
          refine wl_u ?_
          refine wl_n ?_
          refine wl_pt ?_
          refine wl_nil (nrm_then ?_)
          refine cw_true rfl ?_
          refine cw_seq ?_
          refine cw_region ?_
          refine wl_a ?_
          refine wl_nil (nrm_then ?_)
          refine cw_ret (ret_then (ret_block (ret_then (body_ret1 rfl rfl ?_))))
          exact ⟨false, rfl, by simp only [Bool.false_eq_true, false_iff]; intro hh; obtain ⟨hh, hh2⟩ := hh; have hf := (nodeP_iff x).1 hh; (have f1 := hf.rep1; omega), hE46, fun h => by cases h⟩
         ·skip
          refine wl_g ?_
          refine wl_val rfl (ex_fieldAddr rfl Try.fld25_3) ?_
          refine wl_g ?_
          refine wl_val rfl (ex_load1 rfl Try.agg3 (cell_nth hB49 rfl)) ?_
          refine wl_g ?_
          refine wl_val rfl (ex_gtr rfl rfl) ?_
          refine wl_pf ?_
          refine wl_m ?_
          refine wl_split (t := 55) rfl (fun hs55 => ?_) (fun hs55 => ?_)
          ·skip
           refine wl_n ?_
           refine wl_n ?_
           refine wl_n ?_
           refine wl_n ?_
           refine wl_u ?_
           refine wl_u ?_
           refine wl_u ?_
           refine wl_u ?_
           refine wl_u ?_
           refine wl_u ?_
           refine wl_u ?_
           refine wl_u ?_
           refine wl_u ?_
           refine wl_u ?_
           refine wl_n ?_
           refine wl_pt ?_
           refine wl_nil (nrm_then ?_)
           refine cw_true rfl ?_
           refine cw_seq ?_
           refine cw_region ?_
           refine wl_a ?_
           refine wl_nil (nrm_then ?_)
           refine cw_ret (ret_then (ret_block (ret_then (body_ret1 rfl rfl ?_))))
           exact ⟨false, rfl, by simp only [Bool.false_eq_true, false_iff]; intro hh; obtain ⟨hh, hh2⟩ := hh; have hf := (nodeP_iff x).1 hh; (have f1 := hf.rep1; have f2 := hf.rep2; have f3 := hf.rep3; omega), hE46, fun h => by cases h⟩
          ·skip
           refine wl_g ?_
           refine wl_val rfl (ex_fieldAddr rfl Try.fld25_4) ?_
           refine wl_g ?_
           refine wl_val rfl (ex_load1 rfl Try.agg3 (cell_nth hB49 rfl)) ?_
           refine wl_g ?_
           refine wl_val rfl (ex_neq rfl rfl) ?_
           refine wl_g ?_
           refine wl_m ?_
           refine wl_split (t := 59) rfl (fun hs59 => ?_) (fun hs59 => ?_)
           ·skip
            refine wl_g ?_
            refine wl_val rfl (ex_fieldAddr rfl Try.fld25_4) ?_
            refine wl_g ?_
            refine wl_val rfl (ex_load1 rfl Try.agg3 (cell_nth hB49 rfl)) ?_
            refine wl_g ?_
            refine wl_val rfl (ex_fieldAddr rfl Try.fld25_3) ?_
            refine wl_g ?_
            refine wl_val rfl (ex_load1 rfl Try.agg3 (cell_nth hB49 rfl)) ?_
            refine wl_g ?_
            refine wl_val rfl (ex_lss rfl rfl) ?_
            refine wl_g ?_
            refine wl_m ?_
            refine wl_split (t := 65) rfl (fun hs65 => ?_) (fun hs65 => ?_)
            ·skip
             refine wl_n ?_
             refine wl_n ?_
             refine wl_n ?_
             refine wl_g ?_
             refine wl_pt ?_
             refine wl_g ?_
             refine wl_pt ?_
             refine wl_pf ?_
             refine wl_nil (nrm_then ?_)
             refine cw_true rfl ?_
             refine cw_seq ?_
             refine cw_region ?_
             refine wl_a ?_
             refine wl_nil (nrm_then ?_)
             refine cw_ret (ret_then (ret_block (ret_then (body_ret1 rfl rfl ?_))))
             exact ⟨false, rfl, by simp only [Bool.false_eq_true, false_iff]; intro hh; obtain ⟨hh, hh2⟩ := hh; have hf := (nodeP_iff x).1 hh; (have f1 := hf.rep1; have f2 := hf.rep2; have f3 := hf.rep3; omega), hE46, fun h => by cases h⟩
            ·skip
             refine wl_g ?_
             refine wl_val rfl (ex_fieldAddr rfl Try.fld25_4) ?_
             refine wl_g ?_
             refine wl_val rfl (ex_load1 rfl Try.agg3 (cell_nth hB49 rfl)) ?_
             refine wl_g ?_
             refine wl_val rfl (ex_gtr rfl rfl) ?_
             refine wl_g ?_
             refine wl_pf ?_
             refine wl_g ?_
             refine wl_pt ?_
             refine wl_pf ?_
             refine wl_nil (nrm_then ?_)
             refine cw_if rfl (fun hc71 => ?_) (fun hc71 => ?_)
             ·skip
              refine cw_seq ?_
              refine cw_region ?_
              refine wl_a ?_
              refine wl_nil (nrm_then ?_)
              refine cw_ret (ret_then (ret_block (ret_then (body_ret1 rfl rfl ?_))))
              exact ⟨false, rfl, by simp only [Bool.false_eq_true, false_iff]; intro hh; obtain ⟨hh, hh2⟩ := hh; have hf := (nodeP_iff x).1 hh; (have f1 := hf.rep1; have f2 := hf.rep2; have f3 := hf.rep3; omega), hE46, fun h => by cases h⟩
             ·skip
              refine cw_skip (nrm_then ?_)
              refine cw_seq ?_
              refine cw_region ?_
              refine wl_val rfl (ex_fieldAddr rfl Try.fld25_3) ?_
              refine wl_store1 rfl rfl (by first | rfl | assumption) Try.size3 hB50 rfl fun w72 hB73 hw74 => ?_
              have hE75 := hE46.step hw74 hG18.mem1
              have hB76 := hw74.blk hB47 hA15.nmem1
              have hO77 := hO48.evo hw74 hA16.own1
              have hB78 := hw74.blk hB49 hA17.nmem1
              try simp only [List.setIfInBounds_toArray, List.set_cons_zero, List.set_cons_succ, Nat.reduceAdd, Nat.zero_add, Nat.add_zero] at hB73
              refine wl_val rfl (ex_fieldAddr rfl Try.fld25_4) ?_
              refine wl_store1 rfl rfl (by first | rfl | assumption) Try.size3 hB73 rfl fun w79 hB80 hw81 => ?_
              have hE82 := hE75.step hw81 hG18.mem1
              have hB83 := hw81.blk hB76 hA15.nmem1
              have hO84 := hO77.evo hw81 hA16.own1
              have hB85 := hw81.blk hB78 hA17.nmem1
              try simp only [List.setIfInBounds_toArray, List.set_cons_zero, List.set_cons_succ, Nat.reduceAdd, Nat.zero_add, Nat.add_zero] at hB80
              refine wl_val rfl (ex_fieldAddr rfl Try.fld25_5) ?_
              refine wl_store1 rfl rfl (by first | rfl | assumption) Try.size4 hB80 rfl fun w86 hB87 hw88 => ?_
              have hE89 := hE82.step hw88 hG18.mem1
              have hB90 := hw88.blk hB83 hA15.nmem1
              have hO91 := hO84.evo hw88 hA16.own1
              have hB92 := hw88.blk hB85 hA17.nmem1
              try simp only [List.setIfInBounds_toArray, List.set_cons_zero, List.set_cons_succ, Nat.reduceAdd, Nat.zero_add, Nat.add_zero] at hB87
              refine wl_nil (nrm_then ?_)
              refine cw_region ?_
              refine wl_a ?_
              refine wl_nil (nrm_block (nrm_then ?_))
              refine cw_seq ?_
              refine cw_region ?_
              refine wl_val rfl (ex_fieldAddr rfl Try.fld25_8) ?_
              refine wl_val rfl (ex_load1 rfl Try.agg23 (cell_nth hB92 rfl)) ?_
              refine wl_val rfl (ex_len_slice rfl Try.underlying23 rfl) ?_
              refine wl_m ?_
              refine wl_val rfl (ex_eql rfl rfl) ?_
              refine wl_m ?_
              refine wl_split (t := 91) rfl (fun hs91 => ?_) (fun hs91 => ?_)
              ·skip
               refine wl_g ?_
               refine wl_val rfl (ex_fieldAddr rfl Try.fld25_1) ?_
               refine wl_g ?_
               refine wl_val rfl (ex_load1 rfl Try.agg21 (cell_nth hB87 rfl)) ?_
               refine wl_g ?_
               refine wl_val rfl (ex_eql rfl rfl) ?_
               refine wl_pt ?_
               refine wl_m ?_
               refine wl_split (t := 96) rfl (fun hs96 => ?_) (fun hs96 => ?_)
               ·skip
                refine wl_g ?_
                refine wl_val rfl (ex_fieldAddr rfl Try.fld25_2) ?_
                refine wl_g ?_
                refine wl_val rfl (ex_load1 rfl Try.agg22 (cell_nth hB87 rfl)) ?_
                refine wl_g ?_
                refine wl_val rfl (ex_len_slice rfl Try.underlying22 rfl) ?_
                refine wl_g ?_
                refine wl_val rfl (ex_eql rfl rfl) ?_
                refine wl_pt ?_
                refine wl_m ?_
                refine wl_split (t := 102) rfl (fun hs102 => ?_) (fun hs102 => ?_)
                ·skip
                 refine wl_g ?_
                 refine wl_val rfl (ex_fieldAddr rfl Try.fld25_3) ?_
                 refine wl_g ?_
                 refine wl_val rfl (ex_load1 rfl Try.agg3 (cell_nth hB87 rfl)) ?_
                 refine wl_g ?_
                 refine wl_val rfl (ex_eql rfl rfl) ?_
                 refine wl_pt ?_
                 refine wl_m ?_
                 refine wl_split (t := 107) rfl (fun hs107 => ?_) (fun hs107 => ?_)
                 ·skip
                  refine wl_g ?_
                  refine wl_val rfl (ex_fieldAddr rfl Try.fld25_4) ?_
                  refine wl_g ?_
                  refine wl_val rfl (ex_load1 rfl Try.agg3 (cell_nth hB87 rfl)) ?_
                  refine wl_g ?_
                  refine wl_val rfl (ex_eql rfl rfl) ?_
                  refine wl_pt ?_
                  refine wl_m ?_
                  refine wl_split (t := 112) rfl (fun hs112 => ?_) (fun hs112 => ?_)
                  ·skip
                   refine wl_g ?_
                   refine wl_val rfl (ex_fieldAddr rfl Try.fld25_5) ?_
                   refine wl_g ?_
                   refine wl_val rfl (ex_load1 rfl Try.agg4 (cell_nth hB87 rfl)) ?_
                   refine wl_g ?_
                   refine wl_val rfl (ex_notb rfl) ?_
                   refine wl_pt ?_
                   refine wl_m ?_
                   refine wl_splitb (t := 117) rfl (fun hs117 => ?_) (fun hs117 => ?_)
                   ·skip
                    refine wl_g ?_
                    refine wl_val rfl (ex_fieldAddr rfl Try.fld25_6) ?_
                    refine wl_g ?_
                    refine wl_val rfl (ex_load1 rfl Try.agg3 (cell_nth hB87 rfl)) ?_
                    refine wl_g ?_
                    refine wl_val rfl (ex_eql rfl rfl) ?_
                    refine wl_pt ?_
                    refine wl_m ?_
                    refine wl_split (t := 122) rfl (fun hs122 => ?_) (fun hs122 => ?_)
                    ·skip
                     refine wl_g ?_
                     refine wl_val rfl (ex_fieldAddr rfl Try.fld25_7) ?_
                     refine wl_g ?_
                     refine wl_val rfl (ex_load1 rfl Try.agg9 (cell_nth hB87 rfl)) ?_
                     refine wl_g ?_
                     refine wl_val rfl (ex_eqs rfl rfl) ?_
                     refine wl_pt ?_
                     refine wl_a ?_
                     refine wl_nil (nrm_then ?_)
                     refine cw_ret (body_ret1 rfl rfl ?_)
                     have hlz : x.kind = 6 ∨ x.lazy = false := by first | (left; omega) | (right; simpa using hs117)
                     refine ⟨_, rfl, ?_, hE89, fun hb => ?_⟩
                     · simp only [decide_eq_true_eq]
                       constructor
                       · intro hnm
                         exact ⟨(nodeP_iff x).2 (by constructor <;> first | omega | (right; assumption) | (left; omega) | exact hlz | exact .inr hnm | (intro hk; exact hcb.1 (by simpa using hc36)) | (intro hk; exfalso; omega)), by intro hk; exfalso; omega⟩
                       · intro hh; obtain ⟨hh, hh2⟩ := hh; have hf := (nodeP_iff x).1 hh; exact hf.zn.resolve_left (by omega)
                     · rw [if_neg (by omega)]; exact ⟨a, c, ob, ⟨hB90, hO91, hne⟩, .inl rfl⟩
                    ·skip
                     refine wl_n ?_
                     refine wl_n ?_
                     refine wl_n ?_
                     refine wl_pf ?_
                     refine wl_a ?_
                     refine wl_nil (nrm_then ?_)
                     refine cw_ret (body_ret1 rfl rfl ?_)
                     exact ⟨false, rfl, by simp only [Bool.false_eq_true, false_iff]; intro hh; obtain ⟨hh, hh2⟩ := hh; have hf := (nodeP_iff x).1 hh; (have f1 := hf.zc; omega), hE89, fun h => by cases h⟩
                   ·skip
                    refine wl_n ?_
                    refine wl_n ?_
                    refine wl_n ?_
                    refine wl_pf ?_
                    refine wl_m ?_
                    refine wl_n ?_
                    refine wl_n ?_
                    refine wl_n ?_
                    refine wl_pf ?_
                    refine wl_a ?_
                    refine wl_nil (nrm_then ?_)
                    refine cw_ret (body_ret1 rfl rfl ?_)
                    exact ⟨false, rfl, by simp only [Bool.false_eq_true, false_iff]; intro hh; obtain ⟨hh, hh2⟩ := hh; have hf := (nodeP_iff x).1 hh; (first | (rcases hf.zl with h | h; omega; rw [h] at hs117; cases hs117; done) | cases hs117), hE89, fun h => by cases h⟩
                  ·skip
                   refine wl_n ?_
                   refine wl_n ?_
                   refine wl_n ?_
                   refine wl_pf ?_
                   refine wl_m ?_
                   refine wl_n ?_
                   refine wl_n ?_
                   refine wl_n ?_
                   refine wl_pf ?_
                   refine wl_m ?_
                   refine wl_n ?_
                   refine wl_n ?_
                   refine wl_n ?_
                   refine wl_pf ?_
                   refine wl_a ?_
                   refine wl_nil (nrm_then ?_)
                   refine cw_ret (body_ret1 rfl rfl ?_)
                   exact ⟨false, rfl, by simp only [Bool.false_eq_true, false_iff]; intro hh; obtain ⟨hh, hh2⟩ := hh; have hf := (nodeP_iff x).1 hh; (have f1 := hf.zm2; omega), hE89, fun h => by cases h⟩
                 ·skip
                  refine wl_n ?_
                  refine wl_n ?_
                  refine wl_n ?_
                  refine wl_pf ?_
                  refine wl_m ?_
                  refine wl_n ?_
                  refine wl_n ?_
                  refine wl_n ?_
                  refine wl_pf ?_
                  refine wl_m ?_
                  refine wl_n ?_
                  refine wl_n ?_
                  refine wl_n ?_
                  refine wl_pf ?_
                  refine wl_m ?_
                  refine wl_n ?_
                  refine wl_n ?_
                  refine wl_n ?_
                  refine wl_pf ?_
                  refine wl_a ?_
                  refine wl_nil (nrm_then ?_)
                  refine cw_ret (body_ret1 rfl rfl ?_)
                  exact ⟨false, rfl, by simp only [Bool.false_eq_true, false_iff]; intro hh; obtain ⟨hh, hh2⟩ := hh; have hf := (nodeP_iff x).1 hh; (have f1 := hf.zm1; omega), hE89, fun h => by cases h⟩
                ·skip
                 refine wl_n ?_
                 refine wl_n ?_
                 refine wl_n ?_
                 refine wl_pf ?_
                 refine wl_m ?_
                 refine wl_n ?_
                 refine wl_n ?_
                 refine wl_n ?_
                 refine wl_pf ?_
                 refine wl_m ?_
                 refine wl_n ?_
                 refine wl_n ?_
                 refine wl_n ?_
                 refine wl_pf ?_
                 refine wl_m ?_
                 refine wl_n ?_
                 refine wl_n ?_
                 refine wl_n ?_
                 refine wl_pf ?_
                 refine wl_m ?_
                 refine wl_n ?_
                 refine wl_n ?_
                 refine wl_n ?_
                 refine wl_pf ?_
                 refine wl_a ?_
                 refine wl_nil (nrm_then ?_)
                 refine cw_ret (body_ret1 rfl rfl ?_)
                 exact ⟨false, rfl, by simp only [Bool.false_eq_true, false_iff]; intro hh; obtain ⟨hh, hh2⟩ := hh; have hf := (nodeP_iff x).1 hh; (have f1 := hf.zg; omega), hE89, fun h => by cases h⟩
               ·skip
                refine wl_n ?_
                refine wl_n ?_
                refine wl_n ?_
                refine wl_n ?_
                refine wl_pf ?_
                refine wl_m ?_
                refine wl_n ?_
                refine wl_n ?_
                refine wl_n ?_
                refine wl_pf ?_
                refine wl_m ?_
                refine wl_n ?_
                refine wl_n ?_
                refine wl_n ?_
                refine wl_pf ?_
                refine wl_m ?_
                refine wl_n ?_
                refine wl_n ?_
                refine wl_n ?_
                refine wl_pf ?_
                refine wl_m ?_
                refine wl_n ?_
                refine wl_n ?_
                refine wl_n ?_
                refine wl_pf ?_
                refine wl_m ?_
                refine wl_n ?_
                refine wl_n ?_
                refine wl_n ?_
                refine wl_pf ?_
                refine wl_a ?_
                refine wl_nil (nrm_then ?_)
                refine cw_ret (body_ret1 rfl rfl ?_)
                exact ⟨false, rfl, by simp only [Bool.false_eq_true, false_iff]; intro hh; obtain ⟨hh, hh2⟩ := hh; have hf := (nodeP_iff x).1 hh; (have f1 := hf.zr; omega), hE89, fun h => by cases h⟩
              ·skip
               refine wl_n ?_
               refine wl_n ?_
               refine wl_n ?_
               refine wl_pf ?_
               refine wl_m ?_
               refine wl_n ?_
               refine wl_n ?_
               refine wl_n ?_
               refine wl_n ?_
               refine wl_pf ?_
               refine wl_m ?_
               refine wl_n ?_
               refine wl_n ?_
               refine wl_n ?_
               refine wl_pf ?_
               refine wl_m ?_
               refine wl_n ?_
               refine wl_n ?_
               refine wl_n ?_
               refine wl_pf ?_
               refine wl_m ?_
               refine wl_n ?_
               refine wl_n ?_
               refine wl_n ?_
               refine wl_pf ?_
               refine wl_m ?_
               refine wl_n ?_
               refine wl_n ?_
               refine wl_n ?_
               refine wl_pf ?_
               refine wl_m ?_
               refine wl_n ?_
               refine wl_n ?_
               refine wl_n ?_
               refine wl_pf ?_
               refine wl_a ?_
               refine wl_nil (nrm_then ?_)
               refine cw_ret (body_ret1 rfl rfl ?_)
               exact ⟨false, rfl, by simp only [Bool.false_eq_true, false_iff]; intro hh; obtain ⟨hh, hh2⟩ := hh; have hf := (nodeP_iff x).1 hh; (have f1 := hf.two; have f2 := hf.rep4; have f3 := hf.grp; have f4 := hf.leaf; omega), hE89, fun h => by cases h⟩
           ·skip
            refine wl_n ?_
            refine wl_n ?_
            refine wl_n ?_
            refine wl_n ?_
            refine wl_n ?_
            refine wl_n ?_
            refine wl_u ?_
            refine wl_u ?_
            refine wl_u ?_
            refine wl_n ?_
            refine wl_g ?_
            refine wl_pf ?_
            refine wl_pf ?_
            refine wl_nil (nrm_then ?_)
            refine cw_false rfl ?_
            refine cw_skip (nrm_then ?_)
            refine cw_seq ?_
            refine cw_region ?_
            refine wl_val rfl (ex_fieldAddr rfl Try.fld25_3) ?_
            refine wl_store1 rfl rfl (by first | rfl | assumption) Try.size3 hB50 rfl fun w93 hB94 hw95 => ?_
            have hE96 := hE46.step hw95 hG18.mem1
            have hB97 := hw95.blk hB47 hA15.nmem1
            have hO98 := hO48.evo hw95 hA16.own1
            have hB99 := hw95.blk hB49 hA17.nmem1
            try simp only [List.setIfInBounds_toArray, List.set_cons_zero, List.set_cons_succ, Nat.reduceAdd, Nat.zero_add, Nat.add_zero] at hB94
            refine wl_val rfl (ex_fieldAddr rfl Try.fld25_4) ?_
            refine wl_store1 rfl rfl (by first | rfl | assumption) Try.size3 hB94 rfl fun w100 hB101 hw102 => ?_
            have hE103 := hE96.step hw102 hG18.mem1
            have hB104 := hw102.blk hB97 hA15.nmem1
            have hO105 := hO98.evo hw102 hA16.own1
            have hB106 := hw102.blk hB99 hA17.nmem1
            try simp only [List.setIfInBounds_toArray, List.set_cons_zero, List.set_cons_succ, Nat.reduceAdd, Nat.zero_add, Nat.add_zero] at hB101
            refine wl_val rfl (ex_fieldAddr rfl Try.fld25_5) ?_
            refine wl_store1 rfl rfl (by first | rfl | assumption) Try.size4 hB101 rfl fun w107 hB108 hw109 => ?_
            have hE110 := hE103.step hw109 hG18.mem1
            have hB111 := hw109.blk hB104 hA15.nmem1
            have hO112 := hO105.evo hw109 hA16.own1
            have hB113 := hw109.blk hB106 hA17.nmem1
            try simp only [List.setIfInBounds_toArray, List.set_cons_zero, List.set_cons_succ, Nat.reduceAdd, Nat.zero_add, Nat.add_zero] at hB108
            refine wl_nil (nrm_then ?_)
            refine cw_region ?_
            refine wl_a ?_
            refine wl_nil (nrm_block (nrm_then ?_))
            refine cw_seq ?_
            refine cw_region ?_
            refine wl_val rfl (ex_fieldAddr rfl Try.fld25_8) ?_
            refine wl_val rfl (ex_load1 rfl Try.agg23 (cell_nth hB113 rfl)) ?_
            refine wl_val rfl (ex_len_slice rfl Try.underlying23 rfl) ?_
            refine wl_m ?_
            refine wl_val rfl (ex_eql rfl rfl) ?_
            refine wl_m ?_
            refine wl_split (t := 91) rfl (fun hs91 => ?_) (fun hs91 => ?_)
            ·skip
             refine wl_g ?_
             refine wl_val rfl (ex_fieldAddr rfl Try.fld25_1) ?_
             refine wl_g ?_
             refine wl_val rfl (ex_load1 rfl Try.agg21 (cell_nth hB108 rfl)) ?_
             refine wl_g ?_
             refine wl_val rfl (ex_eql rfl rfl) ?_
             refine wl_pt ?_
             refine wl_m ?_
             refine wl_split (t := 96) rfl (fun hs96 => ?_) (fun hs96 => ?_)
             ·skip
              refine wl_g ?_
              refine wl_val rfl (ex_fieldAddr rfl Try.fld25_2) ?_
              refine wl_g ?_
              refine wl_val rfl (ex_load1 rfl Try.agg22 (cell_nth hB108 rfl)) ?_
              refine wl_g ?_
              refine wl_val rfl (ex_len_slice rfl Try.underlying22 rfl) ?_
              refine wl_g ?_
              refine wl_val rfl (ex_eql rfl rfl) ?_
              refine wl_pt ?_
              refine wl_m ?_
              refine wl_split (t := 102) rfl (fun hs102 => ?_) (fun hs102 => ?_)
              ·skip
               refine wl_g ?_
               refine wl_val rfl (ex_fieldAddr rfl Try.fld25_3) ?_
               refine wl_g ?_
               refine wl_val rfl (ex_load1 rfl Try.agg3 (cell_nth hB108 rfl)) ?_
               refine wl_g ?_
               refine wl_val rfl (ex_eql rfl rfl) ?_
               refine wl_pt ?_
               refine wl_m ?_
               refine wl_split (t := 107) rfl (fun hs107 => ?_) (fun hs107 => ?_)
               ·skip
                refine wl_g ?_
                refine wl_val rfl (ex_fieldAddr rfl Try.fld25_4) ?_
                refine wl_g ?_
                refine wl_val rfl (ex_load1 rfl Try.agg3 (cell_nth hB108 rfl)) ?_
                refine wl_g ?_
                refine wl_val rfl (ex_eql rfl rfl) ?_
                refine wl_pt ?_
                refine wl_m ?_
                refine wl_split (t := 112) rfl (fun hs112 => ?_) (fun hs112 => ?_)
                ·skip
                 refine wl_g ?_
                 refine wl_val rfl (ex_fieldAddr rfl Try.fld25_5) ?_
                 refine wl_g ?_
                 refine wl_val rfl (ex_load1 rfl Try.agg4 (cell_nth hB108 rfl)) ?_
                 refine wl_g ?_
                 refine wl_val rfl (ex_notb rfl) ?_
                 refine wl_pt ?_
                 refine wl_m ?_
                 refine wl_splitb (t := 117) rfl (fun hs117 => ?_) (fun hs117 => ?_)
                 ·skip
                  refine wl_g ?_
                  refine wl_val rfl (ex_fieldAddr rfl Try.fld25_6) ?_
                  refine wl_g ?_
                  refine wl_val rfl (ex_load1 rfl Try.agg3 (cell_nth hB108 rfl)) ?_
                  refine wl_g ?_
                  refine wl_val rfl (ex_eql rfl rfl) ?_
                  refine wl_pt ?_
                  refine wl_m ?_
                  refine wl_split (t := 122) rfl (fun hs122 => ?_) (fun hs122 => ?_)
                  ·skip
                   refine wl_g ?_
                   refine wl_val rfl (ex_fieldAddr rfl Try.fld25_7) ?_
                   refine wl_g ?_
                   refine wl_val rfl (ex_load1 rfl Try.agg9 (cell_nth hB108 rfl)) ?_
                   refine wl_g ?_
                   refine wl_val rfl (ex_eqs rfl rfl) ?_
                   refine wl_pt ?_
                   refine wl_a ?_
                   refine wl_nil (nrm_then ?_)
                   refine cw_ret (body_ret1 rfl rfl ?_)
                   have hlz : x.kind = 6 ∨ x.lazy = false := by first | (left; omega) | (right; simpa using hs117)
                   refine ⟨_, rfl, ?_, hE110, fun hb => ?_⟩
                   · simp only [decide_eq_true_eq]
                     constructor
                     · intro hnm
                       exact ⟨(nodeP_iff x).2 (by constructor <;> first | omega | (right; assumption) | (left; omega) | exact hlz | exact .inr hnm | (intro hk; exact hcb.1 (by simpa using hc36)) | (intro hk; exfalso; omega)), by intro hk; exfalso; omega⟩
                     · intro hh; obtain ⟨hh, hh2⟩ := hh; have hf := (nodeP_iff x).1 hh; exact hf.zn.resolve_left (by omega)
                   · rw [if_neg (by omega)]; exact ⟨a, c, ob, ⟨hB111, hO112, hne⟩, .inl rfl⟩
                  ·skip
                   refine wl_n ?_
                   refine wl_n ?_
                   refine wl_n ?_
                   refine wl_pf ?_
                   refine wl_a ?_
                   refine wl_nil (nrm_then ?_)
                   refine cw_ret (body_ret1 rfl rfl ?_)
                   exact ⟨false, rfl, by simp only [Bool.false_eq_true, false_iff]; intro hh; obtain ⟨hh, hh2⟩ := hh; have hf := (nodeP_iff x).1 hh; (have f1 := hf.zc; omega), hE110, fun h => by cases h⟩
                 ·skip
                  refine wl_n ?_
                  refine wl_n ?_
                  refine wl_n ?_
                  refine wl_pf ?_
                  refine wl_m ?_
                  refine wl_n ?_
                  refine wl_n ?_
                  refine wl_n ?_
                  refine wl_pf ?_
                  refine wl_a ?_
                  refine wl_nil (nrm_then ?_)
                  refine cw_ret (body_ret1 rfl rfl ?_)
                  exact ⟨false, rfl, by simp only [Bool.false_eq_true, false_iff]; intro hh; obtain ⟨hh, hh2⟩ := hh; have hf := (nodeP_iff x).1 hh; (first | (rcases hf.zl with h | h; omega; rw [h] at hs117; cases hs117; done) | cases hs117), hE110, fun h => by cases h⟩
                ·skip
                 refine wl_n ?_
                 refine wl_n ?_
                 refine wl_n ?_
                 refine wl_pf ?_
                 refine wl_m ?_
                 refine wl_n ?_
                 refine wl_n ?_
                 refine wl_n ?_
                 refine wl_pf ?_
                 refine wl_m ?_
                 refine wl_n ?_
                 refine wl_n ?_
                 refine wl_n ?_
                 refine wl_pf ?_
                 refine wl_a ?_
                 refine wl_nil (nrm_then ?_)
                 refine cw_ret (body_ret1 rfl rfl ?_)
                 exact ⟨false, rfl, by simp only [Bool.false_eq_true, false_iff]; intro hh; obtain ⟨hh, hh2⟩ := hh; have hf := (nodeP_iff x).1 hh; (have f1 := hf.zm2; omega), hE110, fun h => by cases h⟩
               ·skip
                refine wl_n ?_
                refine wl_n ?_
                refine wl_n ?_
                refine wl_pf ?_
                refine wl_m ?_
                refine wl_n ?_
                refine wl_n ?_
                refine wl_n ?_
                refine wl_pf ?_
                refine wl_m ?_
                refine wl_n ?_
                refine wl_n ?_
                refine wl_n ?_
                refine wl_pf ?_
                refine wl_m ?_
                refine wl_n ?_
                refine wl_n ?_
                refine wl_n ?_
                refine wl_pf ?_
                refine wl_a ?_
                refine wl_nil (nrm_then ?_)
                refine cw_ret (body_ret1 rfl rfl ?_)
                exact ⟨false, rfl, by simp only [Bool.false_eq_true, false_iff]; intro hh; obtain ⟨hh, hh2⟩ := hh; have hf := (nodeP_iff x).1 hh; (have f1 := hf.zm1; omega), hE110, fun h => by cases h⟩
              ·skip
               refine wl_n ?_
               refine wl_n ?_
               refine wl_n ?_
               refine wl_pf ?_
               refine wl_m ?_
               refine wl_n ?_
               refine wl_n ?_
               refine wl_n ?_
               refine wl_pf ?_
               refine wl_m ?_
               refine wl_n ?_
               refine wl_n ?_
               refine wl_n ?_
               refine wl_pf ?_
               refine wl_m ?_
               refine wl_n ?_
               refine wl_n ?_
               refine wl_n ?_
               refine wl_pf ?_
               refine wl_m ?_
               refine wl_n ?_
               refine wl_n ?_
               refine wl_n ?_
               refine wl_pf ?_
               refine wl_a ?_
               refine wl_nil (nrm_then ?_)
               refine cw_ret (body_ret1 rfl rfl ?_)
               exact ⟨false, rfl, by simp only [Bool.false_eq_true, false_iff]; intro hh; obtain ⟨hh, hh2⟩ := hh; have hf := (nodeP_iff x).1 hh; (have f1 := hf.zg; omega), hE110, fun h => by cases h⟩
             ·skip
              refine wl_n ?_
              refine wl_n ?_
              refine wl_n ?_
              refine wl_n ?_
              refine wl_pf ?_
              refine wl_m ?_
              refine wl_n ?_
              refine wl_n ?_
              refine wl_n ?_
              refine wl_pf ?_
              refine wl_m ?_
              refine wl_n ?_
              refine wl_n ?_
              refine wl_n ?_
              refine wl_pf ?_
              refine wl_m ?_
              refine wl_n ?_
              refine wl_n ?_
              refine wl_n ?_
              refine wl_pf ?_
              refine wl_m ?_
              refine wl_n ?_
              refine wl_n ?_
              refine wl_n ?_
              refine wl_pf ?_
              refine wl_m ?_
              refine wl_n ?_
              refine wl_n ?_
              refine wl_n ?_
              refine wl_pf ?_
              refine wl_a ?_
              refine wl_nil (nrm_then ?_)
              refine cw_ret (body_ret1 rfl rfl ?_)
              exact ⟨false, rfl, by simp only [Bool.false_eq_true, false_iff]; intro hh; obtain ⟨hh, hh2⟩ := hh; have hf := (nodeP_iff x).1 hh; (have f1 := hf.zr; omega), hE110, fun h => by cases h⟩
            ·skip
             refine wl_n ?_
             refine wl_n ?_
             refine wl_n ?_
             refine wl_pf ?_
             refine wl_m ?_
             refine wl_n ?_
             refine wl_n ?_
             refine wl_n ?_
             refine wl_n ?_
             refine wl_pf ?_
             refine wl_m ?_
             refine wl_n ?_
             refine wl_n ?_
             refine wl_n ?_
             refine wl_pf ?_
             refine wl_m ?_
             refine wl_n ?_
             refine wl_n ?_
             refine wl_n ?_
             refine wl_pf ?_
             refine wl_m ?_
             refine wl_n ?_
             refine wl_n ?_
             refine wl_n ?_
             refine wl_pf ?_
             refine wl_m ?_
             refine wl_n ?_
             refine wl_n ?_
             refine wl_n ?_
             refine wl_pf ?_
             refine wl_m ?_
             refine wl_n ?_
             refine wl_n ?_
             refine wl_n ?_
             refine wl_pf ?_
             refine wl_a ?_
             refine wl_nil (nrm_then ?_)
             refine cw_ret (body_ret1 rfl rfl ?_)
             exact ⟨false, rfl, by simp only [Bool.false_eq_true, false_iff]; intro hh; obtain ⟨hh, hh2⟩ := hh; have hf := (nodeP_iff x).1 hh; (have f1 := hf.two; have f2 := hf.rep4; have f3 := hf.grp; have f4 := hf.leaf; omega), hE110, fun h => by cases h⟩
        ·skip
         refine cw_seq ?_
         refine cw_region ?_
         refine wl_val rfl (ex_eql rfl rfl) ?_
         refine wl_a ?_
         refine wl_nil (nrm_then ?_)
         refine cw_if rfl (fun hc75 => ?_) (fun hc75 => ?_)
         ·skip
          refine cw_seq ?_
          refine cw_seq ?_
          refine cw_region ?_
          refine wl_m ?_
          refine wl_val rfl (ex_fieldAddr rfl Try.fld25_6) ?_
          refine wl_val rfl (ex_load1 rfl Try.agg3 (cell_nth hB49 rfl)) ?_
          refine wl_val rfl (ex_fieldAddr rfl Try.fld25_7) ?_
          refine wl_val rfl (ex_load1 rfl Try.agg9 (cell_nth hB49 rfl)) ?_
          have hszc := (hE46).size
          have hlt3 := Lt.blk hB49
          have hlt5 := Lt.blk hB50
          refine wl_call1 (vs := [_, _, _]) Try.goes79 rfl (group_ok ⟨hB47, hO48, hne⟩ hl bl2) rfl ?_
          rintro _ w114 ⟨gb, rfl, hgb, hw115, hgs⟩
          have hE116 := hE46.step hw115 (fun y hy => .inl hy)
          have hB117 := hw115.blk hB49 (nmem2 hA5.symm hA6.symm)
          have hB118 := hw115.blk hB50 (nmem2 hA15.symm hA16.symm)
          refine wl_val rfl (ex_notb rfl) ?_
          refine wl_nil (nrm_then ?_)
          refine cw_ifb rfl (fun hc83 => ?_) (fun hc83 => ?_)
          ·skip
           refine cw_seq ?_
           refine cw_region ?_
           refine wl_a ?_
           refine wl_nil (nrm_then ?_)
           refine cw_ret (ret_then (ret_block (ret_then (body_ret1 rfl rfl ?_))))
           exact ⟨false, rfl, by simp only [Bool.false_eq_true, false_iff]; intro hh; obtain ⟨hh, hh2⟩ := hh; have hf := (nodeP_iff x).1 hh; (rw [hgb.2 (hh2 (by omega))] at hc83; cases hc83), hE116, fun h => by cases h⟩
          ·skip
           obtain ⟨a2, c2, ob2, hJ2, hob2⟩ := hgs (by simpa using hc83)
           have hgb2 := hgb.1 (by simpa using hc83)
           have hA3 := ap_ob hA6.symm hlt3 hob2
           have hA5 := ap_ob hA16.symm hlt5 hob2
           refine cw_skip (nrm_then ?_)
           refine cw_seq ?_
           refine cw_region ?_
           refine wl_val rfl (ex_fieldAddr rfl Try.fld25_6) ?_
           refine wl_store1 rfl rfl (by first | rfl | assumption) Try.size3 hB118 rfl fun w119 hB120 hw121 => ?_
           have hE122 := hE116.step hw121 hG18.mem1
           have hB123 := hw121.blk hB117 hA17.nmem1
           have hB124 := hw121.blk hJ2.blk hA15.nmem1
           have hO125 := hJ2.own.evo hw121 hA5.symm.own1
           try simp only [List.setIfInBounds_toArray, List.set_cons_zero, List.set_cons_succ, Nat.reduceAdd, Nat.zero_add, Nat.add_zero] at hB120
           refine wl_val rfl (ex_fieldAddr rfl Try.fld25_7) ?_
           refine wl_store1 rfl rfl (by first | rfl | assumption) Try.size9 hB120 rfl fun w126 hB127 hw128 => ?_
           have hE129 := hE122.step hw128 hG18.mem1
           have hB130 := hw128.blk hB123 hA17.nmem1
           have hB131 := hw128.blk hB124 hA15.nmem1
           have hO132 := hO125.evo hw128 hA5.symm.own1
           try simp only [List.setIfInBounds_toArray, List.set_cons_zero, List.set_cons_succ, Nat.reduceAdd, Nat.zero_add, Nat.add_zero] at hB127
           refine wl_nil (nrm_then ?_)
           refine cw_region ?_
           refine wl_a ?_
           refine wl_nil (nrm_block (nrm_then ?_))
           refine cw_seq ?_
           refine cw_region ?_
           refine wl_val rfl (ex_fieldAddr rfl Try.fld25_8) ?_
           refine wl_val rfl (ex_load1 rfl Try.agg23 (cell_nth hB130 rfl)) ?_
           refine wl_val rfl (ex_len_slice rfl Try.underlying23 rfl) ?_
           refine wl_m ?_
           refine wl_val rfl (ex_eql rfl rfl) ?_
           refine wl_m ?_
           refine wl_split (t := 91) rfl (fun hs91 => ?_) (fun hs91 => ?_)
           ·skip
            refine wl_g ?_
            refine wl_val rfl (ex_fieldAddr rfl Try.fld25_1) ?_
            refine wl_g ?_
            refine wl_val rfl (ex_load1 rfl Try.agg21 (cell_nth hB127 rfl)) ?_
            refine wl_g ?_
            refine wl_val rfl (ex_eql rfl rfl) ?_
            refine wl_pt ?_
            refine wl_m ?_
            refine wl_split (t := 96) rfl (fun hs96 => ?_) (fun hs96 => ?_)
            ·skip
             refine wl_g ?_
             refine wl_val rfl (ex_fieldAddr rfl Try.fld25_2) ?_
             refine wl_g ?_
             refine wl_val rfl (ex_load1 rfl Try.agg22 (cell_nth hB127 rfl)) ?_
             refine wl_g ?_
             refine wl_val rfl (ex_len_slice rfl Try.underlying22 rfl) ?_
             refine wl_g ?_
             refine wl_val rfl (ex_eql rfl rfl) ?_
             refine wl_pt ?_
             refine wl_m ?_
             refine wl_split (t := 102) rfl (fun hs102 => ?_) (fun hs102 => ?_)
             ·skip
              refine wl_g ?_
              refine wl_val rfl (ex_fieldAddr rfl Try.fld25_3) ?_
              refine wl_g ?_
              refine wl_val rfl (ex_load1 rfl Try.agg3 (cell_nth hB127 rfl)) ?_
              refine wl_g ?_
              refine wl_val rfl (ex_eql rfl rfl) ?_
              refine wl_pt ?_
              refine wl_m ?_
              refine wl_split (t := 107) rfl (fun hs107 => ?_) (fun hs107 => ?_)
              ·skip
               refine wl_g ?_
               refine wl_val rfl (ex_fieldAddr rfl Try.fld25_4) ?_
               refine wl_g ?_
               refine wl_val rfl (ex_load1 rfl Try.agg3 (cell_nth hB127 rfl)) ?_
               refine wl_g ?_
               refine wl_val rfl (ex_eql rfl rfl) ?_
               refine wl_pt ?_
               refine wl_m ?_
               refine wl_split (t := 112) rfl (fun hs112 => ?_) (fun hs112 => ?_)
               ·skip
                refine wl_g ?_
                refine wl_val rfl (ex_fieldAddr rfl Try.fld25_5) ?_
                refine wl_g ?_
                refine wl_val rfl (ex_load1 rfl Try.agg4 (cell_nth hB127 rfl)) ?_
                refine wl_g ?_
                refine wl_val rfl (ex_notb rfl) ?_
                refine wl_pt ?_
                refine wl_m ?_
                refine wl_splitb (t := 117) rfl (fun hs117 => ?_) (fun hs117 => ?_)
                ·skip
                 refine wl_g ?_
                 refine wl_val rfl (ex_fieldAddr rfl Try.fld25_6) ?_
                 refine wl_g ?_
                 refine wl_val rfl (ex_load1 rfl Try.agg3 (cell_nth hB127 rfl)) ?_
                 refine wl_g ?_
                 refine wl_val rfl (ex_eql rfl rfl) ?_
                 refine wl_pt ?_
                 refine wl_m ?_
                 refine wl_split (t := 122) rfl (fun hs122 => ?_) (fun hs122 => ?_)
                 ·skip
                  refine wl_g ?_
                  refine wl_val rfl (ex_fieldAddr rfl Try.fld25_7) ?_
                  refine wl_g ?_
                  refine wl_val rfl (ex_load1 rfl Try.agg9 (cell_nth hB127 rfl)) ?_
                  refine wl_g ?_
                  refine wl_val rfl (ex_eqs rfl rfl) ?_
                  refine wl_pt ?_
                  refine wl_a ?_
                  refine wl_nil (nrm_then ?_)
                  refine cw_ret (body_ret1 rfl rfl ?_)
                  have hob3 : ob2 = ob ∨ ∃ g, ob2 = some g ∧ w.heap.size ≤ g := hob2.imp id (fun ⟨g, h1, h2⟩ => ⟨g, h1, Nat.le_trans hszc h2⟩)
                  have hlz : x.kind = 6 ∨ x.lazy = false := by first | (left; omega) | (right; simpa using hs117)
                  refine ⟨_, rfl, ?_, hE129, fun hb => ?_⟩
                  · simp only [decide_eq_true_eq]
                    constructor
                    · intro hnm
                      exact ⟨(nodeP_iff x).2 (by constructor <;> first | omega | (right; assumption) | (left; omega) | exact hlz | (intro hk; exact hcb.1 (by simpa using hc36)) | (intro hk; exfalso; omega)), by intro _; exact hgb2⟩
                    · intro hh; obtain ⟨hh, hh2⟩ := hh; have hf := (nodeP_iff x).1 hh; trivial
                  · rw [if_pos (by omega)]; exact ⟨a2, c2, ob2, ⟨hB131, hO132, hJ2.ne⟩, hob3⟩
                 ·skip
                  refine wl_n ?_
                  refine wl_n ?_
                  refine wl_n ?_
                  refine wl_pf ?_
                  refine wl_a ?_
                  refine wl_nil (nrm_then ?_)
                  refine cw_ret (body_ret1 rfl rfl ?_)
                  exact ⟨false, rfl, by simp only [Bool.false_eq_true, false_iff]; intro hh; obtain ⟨hh, hh2⟩ := hh; have hf := (nodeP_iff x).1 hh; (have f1 := hf.zc; omega), hE129, fun h => by cases h⟩
                ·skip
                 refine wl_n ?_
                 refine wl_n ?_
                 refine wl_n ?_
                 refine wl_pf ?_
                 refine wl_m ?_
                 refine wl_n ?_
                 refine wl_n ?_
                 refine wl_n ?_
                 refine wl_pf ?_
                 refine wl_a ?_
                 refine wl_nil (nrm_then ?_)
                 refine cw_ret (body_ret1 rfl rfl ?_)
                 exact ⟨false, rfl, by simp only [Bool.false_eq_true, false_iff]; intro hh; obtain ⟨hh, hh2⟩ := hh; have hf := (nodeP_iff x).1 hh; (first | (rcases hf.zl with h | h; omega; rw [h] at hs117; cases hs117; done) | cases hs117), hE129, fun h => by cases h⟩
               ·skip
                refine wl_n ?_
                refine wl_n ?_
                refine wl_n ?_
                refine wl_pf ?_
                refine wl_m ?_
                refine wl_n ?_
                refine wl_n ?_
                refine wl_n ?_
                refine wl_pf ?_
                refine wl_m ?_
                refine wl_n ?_
                refine wl_n ?_
                refine wl_n ?_
                refine wl_pf ?_
                refine wl_a ?_
                refine wl_nil (nrm_then ?_)
                refine cw_ret (body_ret1 rfl rfl ?_)
                exact ⟨false, rfl, by simp only [Bool.false_eq_true, false_iff]; intro hh; obtain ⟨hh, hh2⟩ := hh; have hf := (nodeP_iff x).1 hh; (have f1 := hf.zm2; omega), hE129, fun h => by cases h⟩
              ·skip
               refine wl_n ?_
               refine wl_n ?_
               refine wl_n ?_
               refine wl_pf ?_
               refine wl_m ?_
               refine wl_n ?_
               refine wl_n ?_
               refine wl_n ?_
               refine wl_pf ?_
               refine wl_m ?_
               refine wl_n ?_
               refine wl_n ?_
               refine wl_n ?_
               refine wl_pf ?_
               refine wl_m ?_
               refine wl_n ?_
               refine wl_n ?_
               refine wl_n ?_
               refine wl_pf ?_
               refine wl_a ?_
               refine wl_nil (nrm_then ?_)
               refine cw_ret (body_ret1 rfl rfl ?_)
               exact ⟨false, rfl, by simp only [Bool.false_eq_true, false_iff]; intro hh; obtain ⟨hh, hh2⟩ := hh; have hf := (nodeP_iff x).1 hh; (have f1 := hf.zm1; omega), hE129, fun h => by cases h⟩
             ·skip
              refine wl_n ?_
              refine wl_n ?_
              refine wl_n ?_
              refine wl_pf ?_
              refine wl_m ?_
              refine wl_n ?_
              refine wl_n ?_
              refine wl_n ?_
              refine wl_pf ?_
              refine wl_m ?_
              refine wl_n ?_
              refine wl_n ?_
              refine wl_n ?_
              refine wl_pf ?_
              refine wl_m ?_
              refine wl_n ?_
              refine wl_n ?_
              refine wl_n ?_
              refine wl_pf ?_
              refine wl_m ?_
              refine wl_n ?_
              refine wl_n ?_
              refine wl_n ?_
              refine wl_pf ?_
              refine wl_a ?_
              refine wl_nil (nrm_then ?_)
              refine cw_ret (body_ret1 rfl rfl ?_)
              exact ⟨false, rfl, by simp only [Bool.false_eq_true, false_iff]; intro hh; obtain ⟨hh, hh2⟩ := hh; have hf := (nodeP_iff x).1 hh; (have f1 := hf.zg; omega), hE129, fun h => by cases h⟩
            ·skip
             refine wl_n ?_
             refine wl_n ?_
             refine wl_n ?_
             refine wl_n ?_
             refine wl_pf ?_
             refine wl_m ?_
             refine wl_n ?_
             refine wl_n ?_
             refine wl_n ?_
             refine wl_pf ?_
             refine wl_m ?_
             refine wl_n ?_
             refine wl_n ?_
             refine wl_n ?_
             refine wl_pf ?_
             refine wl_m ?_
             refine wl_n ?_
             refine wl_n ?_
             refine wl_n ?_
             refine wl_pf ?_
             refine wl_m ?_
             refine wl_n ?_
             refine wl_n ?_
             refine wl_n ?_
             refine wl_pf ?_
             refine wl_m ?_
             refine wl_n ?_
             refine wl_n ?_
             refine wl_n ?_
             refine wl_pf ?_
             refine wl_a ?_
             refine wl_nil (nrm_then ?_)
             refine cw_ret (body_ret1 rfl rfl ?_)
             exact ⟨false, rfl, by simp only [Bool.false_eq_true, false_iff]; intro hh; obtain ⟨hh, hh2⟩ := hh; have hf := (nodeP_iff x).1 hh; (have f1 := hf.zr; omega), hE129, fun h => by cases h⟩
           ·skip
            refine wl_n ?_
            refine wl_n ?_
            refine wl_n ?_
            refine wl_pf ?_
            refine wl_m ?_
            refine wl_n ?_
            refine wl_n ?_
            refine wl_n ?_
            refine wl_n ?_
            refine wl_pf ?_
            refine wl_m ?_
            refine wl_n ?_
            refine wl_n ?_
            refine wl_n ?_
            refine wl_pf ?_
            refine wl_m ?_
            refine wl_n ?_
            refine wl_n ?_
            refine wl_n ?_
            refine wl_pf ?_
            refine wl_m ?_
            refine wl_n ?_
            refine wl_n ?_
            refine wl_n ?_
            refine wl_pf ?_
            refine wl_m ?_
            refine wl_n ?_
            refine wl_n ?_
            refine wl_n ?_
            refine wl_pf ?_
            refine wl_m ?_
            refine wl_n ?_
            refine wl_n ?_
            refine wl_n ?_
            refine wl_pf ?_
            refine wl_a ?_
            refine wl_nil (nrm_then ?_)
            refine cw_ret (body_ret1 rfl rfl ?_)
            exact ⟨false, rfl, by simp only [Bool.false_eq_true, false_iff]; intro hh; obtain ⟨hh, hh2⟩ := hh; have hf := (nodeP_iff x).1 hh; (have f1 := hf.two; have f2 := hf.rep4; have f3 := hf.grp; have f4 := hf.leaf; omega), hE129, fun h => by cases h⟩
         ·skip
          refine cw_seq ?_
          refine cw_region ?_
          refine wl_a ?_
          refine wl_nil (nrm_then ?_)
          refine cw_ret (ret_block (ret_then (body_ret1 rfl rfl ?_)))
          exact ⟨false, rfl, by simp only [Bool.false_eq_true, false_iff]; intro hh; obtain ⟨hh, hh2⟩ := hh; have hf := (nodeP_iff x).1 hh; (have f1 := hf.kind1; have f2 := hf.kind2; omega), hE46, fun h => by cases h⟩
      ·skip
       refine cw_region ?_
       refine wl_val rfl (ex_eql rfl rfl) ?_
       refine wl_a ?_
       refine wl_nil (nrm_then ?_)
       refine cw_if rfl (fun hc38 => ?_) (fun hc38 => ?_)
       ·skip
        refine cw_region ?_
        refine wl_val rfl (ex_fieldAddr rfl Try.fld25_8) ?_
        refine wl_val rfl (ex_load1 rfl Try.agg23 (cell_nth hB49 rfl)) ?_
        refine wl_val rfl (ex_len_slice rfl Try.underlying23 rfl) ?_
        refine wl_val rfl (ex_max rfl rfl) ?_
        refine wl_a ?_
        refine wl_nil (nrm_block (nrm_then ?_))
        refine cw_seq ?_
        refine cw_region ?_
        refine wl_val rfl (ex_fieldAddr rfl Try.fld25_8) ?_
        refine wl_val rfl (ex_load1 rfl Try.agg23 (cell_nth hB49 rfl)) ?_
        refine wl_val rfl (ex_len_slice rfl Try.underlying23 rfl) ?_
        refine wl_m ?_
        refine wl_val rfl (ex_eql rfl rfl) ?_
        refine wl_m ?_
        refine wl_split (t := 91) rfl (fun hs91 => ?_) (fun hs91 => ?_)
        ·skip
         refine wl_g ?_
         refine wl_val rfl (ex_fieldAddr rfl Try.fld25_1) ?_
         refine wl_g ?_
         refine wl_val rfl (ex_load1 rfl Try.agg21 (cell_nth hB50 rfl)) ?_
         refine wl_g ?_
         refine wl_val rfl (ex_eql rfl rfl) ?_
         refine wl_pt ?_
         refine wl_m ?_
         refine wl_split (t := 96) rfl (fun hs96 => ?_) (fun hs96 => ?_)
         ·skip
          refine wl_g ?_
          refine wl_val rfl (ex_fieldAddr rfl Try.fld25_2) ?_
          refine wl_g ?_
          refine wl_val rfl (ex_load1 rfl Try.agg22 (cell_nth hB50 rfl)) ?_
          refine wl_g ?_
          refine wl_val rfl (ex_len_slice rfl Try.underlying22 rfl) ?_
          refine wl_g ?_
          refine wl_val rfl (ex_eql rfl rfl) ?_
          refine wl_pt ?_
          refine wl_m ?_
          refine wl_split (t := 102) rfl (fun hs102 => ?_) (fun hs102 => ?_)
          ·skip
           refine wl_g ?_
           refine wl_val rfl (ex_fieldAddr rfl Try.fld25_3) ?_
           refine wl_g ?_
           refine wl_val rfl (ex_load1 rfl Try.agg3 (cell_nth hB50 rfl)) ?_
           refine wl_g ?_
           refine wl_val rfl (ex_eql rfl rfl) ?_
           refine wl_pt ?_
           refine wl_m ?_
           refine wl_split (t := 107) rfl (fun hs107 => ?_) (fun hs107 => ?_)
           ·skip
            refine wl_g ?_
            refine wl_val rfl (ex_fieldAddr rfl Try.fld25_4) ?_
            refine wl_g ?_
            refine wl_val rfl (ex_load1 rfl Try.agg3 (cell_nth hB50 rfl)) ?_
            refine wl_g ?_
            refine wl_val rfl (ex_eql rfl rfl) ?_
            refine wl_pt ?_
            refine wl_m ?_
            refine wl_split (t := 112) rfl (fun hs112 => ?_) (fun hs112 => ?_)
            ·skip
             refine wl_g ?_
             refine wl_val rfl (ex_fieldAddr rfl Try.fld25_5) ?_
             refine wl_g ?_
             refine wl_val rfl (ex_load1 rfl Try.agg4 (cell_nth hB50 rfl)) ?_
             refine wl_g ?_
             refine wl_val rfl (ex_notb rfl) ?_
             refine wl_pt ?_
             refine wl_m ?_
             refine wl_splitb (t := 117) rfl (fun hs117 => ?_) (fun hs117 => ?_)
             ·skip
              refine wl_g ?_
              refine wl_val rfl (ex_fieldAddr rfl Try.fld25_6) ?_
              refine wl_g ?_
              refine wl_val rfl (ex_load1 rfl Try.agg3 (cell_nth hB50 rfl)) ?_
              refine wl_g ?_
              refine wl_val rfl (ex_eql rfl rfl) ?_
              refine wl_pt ?_
              refine wl_m ?_
              refine wl_split (t := 122) rfl (fun hs122 => ?_) (fun hs122 => ?_)
              ·skip
               refine wl_g ?_
               refine wl_val rfl (ex_fieldAddr rfl Try.fld25_7) ?_
               refine wl_g ?_
               refine wl_val rfl (ex_load1 rfl Try.agg9 (cell_nth hB50 rfl)) ?_
               refine wl_g ?_
               refine wl_val rfl (ex_eqs rfl rfl) ?_
               refine wl_pt ?_
               refine wl_a ?_
               refine wl_nil (nrm_then ?_)
               refine cw_ret (body_ret1 rfl rfl ?_)
               have hlz : x.kind = 6 ∨ x.lazy = false := by first | (left; omega) | (right; simpa using hs117)
               refine ⟨_, rfl, ?_, hE46, fun hb => ?_⟩
               · simp only [decide_eq_true_eq]
                 constructor
                 · intro hnm
                   exact ⟨(nodeP_iff x).2 (by constructor <;> first | omega | (right; assumption) | (left; omega) | exact hlz | exact .inr hnm | (intro hk; exact hcb.1 (by simpa using hc36)) | (intro hk; exfalso; omega)), by intro hk; exfalso; omega⟩
                 · intro hh; obtain ⟨hh, hh2⟩ := hh; have hf := (nodeP_iff x).1 hh; exact hf.zn.resolve_left (by omega)
               · rw [if_neg (by omega)]; exact ⟨a, c, ob, ⟨hB47, hO48, hne⟩, .inl rfl⟩
              ·skip
               refine wl_n ?_
               refine wl_n ?_
               refine wl_n ?_
               refine wl_pf ?_
               refine wl_a ?_
               refine wl_nil (nrm_then ?_)
               refine cw_ret (body_ret1 rfl rfl ?_)
               exact ⟨false, rfl, by simp only [Bool.false_eq_true, false_iff]; intro hh; obtain ⟨hh, hh2⟩ := hh; have hf := (nodeP_iff x).1 hh; (have f1 := hf.zc; omega), hE46, fun h => by cases h⟩
             ·skip
              refine wl_n ?_
              refine wl_n ?_
              refine wl_n ?_
              refine wl_pf ?_
              refine wl_m ?_
              refine wl_n ?_
              refine wl_n ?_
              refine wl_n ?_
              refine wl_pf ?_
              refine wl_a ?_
              refine wl_nil (nrm_then ?_)
              refine cw_ret (body_ret1 rfl rfl ?_)
              exact ⟨false, rfl, by simp only [Bool.false_eq_true, false_iff]; intro hh; obtain ⟨hh, hh2⟩ := hh; have hf := (nodeP_iff x).1 hh; (first | (rcases hf.zl with h | h; omega; rw [h] at hs117; cases hs117; done) | cases hs117), hE46, fun h => by cases h⟩
            ·skip
             refine wl_n ?_
             refine wl_n ?_
             refine wl_n ?_
             refine wl_pf ?_
             refine wl_m ?_
             refine wl_n ?_
             refine wl_n ?_
             refine wl_n ?_
             refine wl_pf ?_
             refine wl_m ?_
             refine wl_n ?_
             refine wl_n ?_
             refine wl_n ?_
             refine wl_pf ?_
             refine wl_a ?_
             refine wl_nil (nrm_then ?_)
             refine cw_ret (body_ret1 rfl rfl ?_)
             exact ⟨false, rfl, by simp only [Bool.false_eq_true, false_iff]; intro hh; obtain ⟨hh, hh2⟩ := hh; have hf := (nodeP_iff x).1 hh; (have f1 := hf.zm2; omega), hE46, fun h => by cases h⟩
           ·skip
            refine wl_n ?_
            refine wl_n ?_
            refine wl_n ?_
            refine wl_pf ?_
            refine wl_m ?_
            refine wl_n ?_
            refine wl_n ?_
            refine wl_n ?_
            refine wl_pf ?_
            refine wl_m ?_
            refine wl_n ?_
            refine wl_n ?_
            refine wl_n ?_
            refine wl_pf ?_
            refine wl_m ?_
            refine wl_n ?_
            refine wl_n ?_
            refine wl_n ?_
            refine wl_pf ?_
            refine wl_a ?_
            refine wl_nil (nrm_then ?_)
            refine cw_ret (body_ret1 rfl rfl ?_)
            exact ⟨false, rfl, by simp only [Bool.false_eq_true, false_iff]; intro hh; obtain ⟨hh, hh2⟩ := hh; have hf := (nodeP_iff x).1 hh; (have f1 := hf.zm1; omega), hE46, fun h => by cases h⟩
          ·skip
           refine wl_n ?_
           refine wl_n ?_
           refine wl_n ?_
           refine wl_pf ?_
           refine wl_m ?_
           refine wl_n ?_
           refine wl_n ?_
           refine wl_n ?_
           refine wl_pf ?_
           refine wl_m ?_
           refine wl_n ?_
           refine wl_n ?_
           refine wl_n ?_
           refine wl_pf ?_
           refine wl_m ?_
           refine wl_n ?_
           refine wl_n ?_
           refine wl_n ?_
           refine wl_pf ?_
           refine wl_m ?_
           refine wl_n ?_
           refine wl_n ?_
           refine wl_n ?_
           refine wl_pf ?_
           refine wl_a ?_
           refine wl_nil (nrm_then ?_)
           refine cw_ret (body_ret1 rfl rfl ?_)
           exact ⟨false, rfl, by simp only [Bool.false_eq_true, false_iff]; intro hh; obtain ⟨hh, hh2⟩ := hh; have hf := (nodeP_iff x).1 hh; (have f1 := hf.zg; omega), hE46, fun h => by cases h⟩
         ·skip
          refine wl_n ?_
          refine wl_n ?_
          refine wl_n ?_
          refine wl_n ?_
          refine wl_pf ?_
          refine wl_m ?_
          refine wl_n ?_
          refine wl_n ?_
          refine wl_n ?_
          refine wl_pf ?_
          refine wl_m ?_
          refine wl_n ?_
          refine wl_n ?_
          refine wl_n ?_
          refine wl_pf ?_
          refine wl_m ?_
          refine wl_n ?_
          refine wl_n ?_
          refine wl_n ?_
          refine wl_pf ?_
          refine wl_m ?_
          refine wl_n ?_
          refine wl_n ?_
          refine wl_n ?_
          refine wl_pf ?_
          refine wl_m ?_
          refine wl_n ?_
          refine wl_n ?_
          refine wl_n ?_
          refine wl_pf ?_
          refine wl_a ?_
          refine wl_nil (nrm_then ?_)
          refine cw_ret (body_ret1 rfl rfl ?_)
          exact ⟨false, rfl, by simp only [Bool.false_eq_true, false_iff]; intro hh; obtain ⟨hh, hh2⟩ := hh; have hf := (nodeP_iff x).1 hh; (have f1 := hf.zr; omega), hE46, fun h => by cases h⟩
        ·skip
         refine wl_n ?_
         refine wl_n ?_
         refine wl_n ?_
         refine wl_pf ?_
         refine wl_m ?_
         refine wl_n ?_
         refine wl_n ?_
         refine wl_n ?_
         refine wl_n ?_
         refine wl_pf ?_
         refine wl_m ?_
         refine wl_n ?_
         refine wl_n ?_
         refine wl_n ?_
         refine wl_pf ?_
         refine wl_m ?_
         refine wl_n ?_
         refine wl_n ?_
         refine wl_n ?_
         refine wl_pf ?_
         refine wl_m ?_
         refine wl_n ?_
         refine wl_n ?_
         refine wl_n ?_
         refine wl_pf ?_
         refine wl_m ?_
         refine wl_n ?_
         refine wl_n ?_
         refine wl_n ?_
         refine wl_pf ?_
         refine wl_m ?_
         refine wl_n ?_
         refine wl_n ?_
         refine wl_n ?_
         refine wl_pf ?_
         refine wl_a ?_
         refine wl_nil (nrm_then ?_)
         refine cw_ret (body_ret1 rfl rfl ?_)
         exact ⟨false, rfl, by simp only [Bool.false_eq_true, false_iff]; intro hh; obtain ⟨hh, hh2⟩ := hh; have hf := (nodeP_iff x).1 hh; (have f1 := hf.two; have f2 := hf.rep4; have f3 := hf.grp; have f4 := hf.leaf; omega), hE46, fun h => by cases h⟩
       ·skip
        refine cw_seq ?_
        refine cw_region ?_
        refine wl_val rfl (ex_eql rfl rfl) ?_
        refine wl_a ?_
        refine wl_nil (nrm_then ?_)
        refine cw_if rfl (fun hc45 => ?_) (fun hc45 => ?_)
        ·skip
         refine cw_seq ?_
         refine cw_seq ?_
         refine cw_region ?_
         refine wl_val rfl (ex_fieldAddr rfl Try.fld25_3) ?_
         refine wl_val rfl (ex_load1 rfl Try.agg3 (cell_nth hB49 rfl)) ?_
         refine wl_val rfl (ex_lss rfl rfl) ?_
         refine wl_m ?_
         refine wl_split (t := 50) rfl (fun hs50 => ?_) (fun hs50 => ?_)
         ·skip
          refine wl_n ?_
          refine wl_n ?_
          refine wl_n ?_
          refine wl_pt ?_
          refine wl_m ?_
          refine wl_n ?_
          refine wl_n ?_
          refine wl_n ?_
          refine wl_n ?_
          refine wl_u ?_
          refine wl_u ?_
          refine wl_u ?_
          refine wl_u ?_
          refine wl_u ?_
          refine wl_u ?_
          refine wl_u ?_
          refine wl_u ?_
          refine wl_u ?_
          refine wl_u ?_
          refine wl_n ?_
          refine wl_pt ?_
          refine wl_nil (nrm_then ?_)
          refine cw_true rfl ?_
          refine cw_seq ?_
          refine cw_region ?_
          refine wl_a ?_
          refine wl_nil (nrm_then ?_)
          refine cw_ret (ret_then (ret_block (ret_then (body_ret1 rfl rfl ?_))))
          exact ⟨false, rfl, by simp only [Bool.false_eq_true, false_iff]; intro hh; obtain ⟨hh, hh2⟩ := hh; have hf := (nodeP_iff x).1 hh; (have f1 := hf.rep1; omega), hE46, fun h => by cases h⟩
         ·skip
          refine wl_g ?_
          refine wl_val rfl (ex_fieldAddr rfl Try.fld25_3) ?_
          refine wl_g ?_
          refine wl_val rfl (ex_load1 rfl Try.agg3 (cell_nth hB49 rfl)) ?_
          refine wl_g ?_
          refine wl_val rfl (ex_gtr rfl rfl) ?_
          refine wl_pf ?_
          refine wl_m ?_
          refine wl_split (t := 55) rfl (fun hs55 => ?_) (fun hs55 => ?_)
          ·skip
           refine wl_n ?_
           refine wl_n ?_
           refine wl_n ?_
           refine wl_n ?_
           refine wl_u ?_
           refine wl_u ?_
           refine wl_u ?_
           refine wl_u ?_
           refine wl_u ?_
           refine wl_u ?_
           refine wl_u ?_
           refine wl_u ?_
           refine wl_u ?_
           refine wl_u ?_
           refine wl_n ?_
           refine wl_pt ?_
           refine wl_nil (nrm_then ?_)
           refine cw_true rfl ?_
           refine cw_seq ?_
           refine cw_region ?_
           refine wl_a ?_
           refine wl_nil (nrm_then ?_)
           refine cw_ret (ret_then (ret_block (ret_then (body_ret1 rfl rfl ?_))))
           exact ⟨false, rfl, by simp only [Bool.false_eq_true, false_iff]; intro hh; obtain ⟨hh, hh2⟩ := hh; have hf := (nodeP_iff x).1 hh; (have f1 := hf.rep1; have f2 := hf.rep2; have f3 := hf.rep3; omega), hE46, fun h => by cases h⟩
          ·skip
           refine wl_g ?_
           refine wl_val rfl (ex_fieldAddr rfl Try.fld25_4) ?_
           refine wl_g ?_
           refine wl_val rfl (ex_load1 rfl Try.agg3 (cell_nth hB49 rfl)) ?_
           refine wl_g ?_
           refine wl_val rfl (ex_neq rfl rfl) ?_
           refine wl_g ?_
           refine wl_m ?_
           refine wl_split (t := 59) rfl (fun hs59 => ?_) (fun hs59 => ?_)
           ·skip
            refine wl_g ?_
            refine wl_val rfl (ex_fieldAddr rfl Try.fld25_4) ?_
            refine wl_g ?_
            refine wl_val rfl (ex_load1 rfl Try.agg3 (cell_nth hB49 rfl)) ?_
            refine wl_g ?_
            refine wl_val rfl (ex_fieldAddr rfl Try.fld25_3) ?_
            refine wl_g ?_
            refine wl_val rfl (ex_load1 rfl Try.agg3 (cell_nth hB49 rfl)) ?_
            refine wl_g ?_
            refine wl_val rfl (ex_lss rfl rfl) ?_
            refine wl_g ?_
            refine wl_m ?_
            refine wl_split (t := 65) rfl (fun hs65 => ?_) (fun hs65 => ?_)
            ·skip
             refine wl_n ?_
             refine wl_n ?_
             refine wl_n ?_
             refine wl_g ?_
             refine wl_pt ?_
             refine wl_g ?_
             refine wl_pt ?_
             refine wl_pf ?_
             refine wl_nil (nrm_then ?_)
             refine cw_true rfl ?_
             refine cw_seq ?_
             refine cw_region ?_
             refine wl_a ?_
             refine wl_nil (nrm_then ?_)
             refine cw_ret (ret_then (ret_block (ret_then (body_ret1 rfl rfl ?_))))
             exact ⟨false, rfl, by simp only [Bool.false_eq_true, false_iff]; intro hh; obtain ⟨hh, hh2⟩ := hh; have hf := (nodeP_iff x).1 hh; (have f1 := hf.rep1; have f2 := hf.rep2; have f3 := hf.rep3; omega), hE46, fun h => by cases h⟩
            ·skip
             refine wl_g ?_
             refine wl_val rfl (ex_fieldAddr rfl Try.fld25_4) ?_
             refine wl_g ?_
             refine wl_val rfl (ex_load1 rfl Try.agg3 (cell_nth hB49 rfl)) ?_
             refine wl_g ?_
             refine wl_val rfl (ex_gtr rfl rfl) ?_
             refine wl_g ?_
             refine wl_pf ?_
             refine wl_g ?_
             refine wl_pt ?_
             refine wl_pf ?_
             refine wl_nil (nrm_then ?_)
             refine cw_if rfl (fun hc71 => ?_) (fun hc71 => ?_)
             ·skip
              refine cw_seq ?_
              refine cw_region ?_
              refine wl_a ?_
              refine wl_nil (nrm_then ?_)
              refine cw_ret (ret_then (ret_block (ret_then (body_ret1 rfl rfl ?_))))
              exact ⟨false, rfl, by simp only [Bool.false_eq_true, false_iff]; intro hh; obtain ⟨hh, hh2⟩ := hh; have hf := (nodeP_iff x).1 hh; (have f1 := hf.rep1; have f2 := hf.rep2; have f3 := hf.rep3; omega), hE46, fun h => by cases h⟩
             ·skip
              refine cw_skip (nrm_then ?_)
              refine cw_seq ?_
              refine cw_region ?_
              refine wl_val rfl (ex_fieldAddr rfl Try.fld25_3) ?_
              refine wl_store1 rfl rfl (by first | rfl | assumption) Try.size3 hB50 rfl fun w133 hB134 hw135 => ?_
              have hE136 := hE46.step hw135 hG18.mem1
              have hB137 := hw135.blk hB47 hA15.nmem1
              have hO138 := hO48.evo hw135 hA16.own1
              have hB139 := hw135.blk hB49 hA17.nmem1
              try simp only [List.setIfInBounds_toArray, List.set_cons_zero, List.set_cons_succ, Nat.reduceAdd, Nat.zero_add, Nat.add_zero] at hB134
              refine wl_val rfl (ex_fieldAddr rfl Try.fld25_4) ?_
              refine wl_store1 rfl rfl (by first | rfl | assumption) Try.size3 hB134 rfl fun w140 hB141 hw142 => ?_
              have hE143 := hE136.step hw142 hG18.mem1
              have hB144 := hw142.blk hB137 hA15.nmem1
              have hO145 := hO138.evo hw142 hA16.own1
              have hB146 := hw142.blk hB139 hA17.nmem1
              try simp only [List.setIfInBounds_toArray, List.set_cons_zero, List.set_cons_succ, Nat.reduceAdd, Nat.zero_add, Nat.add_zero] at hB141
              refine wl_val rfl (ex_fieldAddr rfl Try.fld25_5) ?_
              refine wl_store1 rfl rfl (by first | rfl | assumption) Try.size4 hB141 rfl fun w147 hB148 hw149 => ?_
              have hE150 := hE143.step hw149 hG18.mem1
              have hB151 := hw149.blk hB144 hA15.nmem1
              have hO152 := hO145.evo hw149 hA16.own1
              have hB153 := hw149.blk hB146 hA17.nmem1
              try simp only [List.setIfInBounds_toArray, List.set_cons_zero, List.set_cons_succ, Nat.reduceAdd, Nat.zero_add, Nat.add_zero] at hB148
              refine wl_nil (nrm_then ?_)
              refine cw_region ?_
              refine wl_a ?_
              refine wl_nil (nrm_block (nrm_then ?_))
              refine cw_seq ?_
              refine cw_region ?_
              refine wl_val rfl (ex_fieldAddr rfl Try.fld25_8) ?_
              refine wl_val rfl (ex_load1 rfl Try.agg23 (cell_nth hB153 rfl)) ?_
              refine wl_val rfl (ex_len_slice rfl Try.underlying23 rfl) ?_
              refine wl_m ?_
              refine wl_val rfl (ex_eql rfl rfl) ?_
              refine wl_m ?_
              refine wl_split (t := 91) rfl (fun hs91 => ?_) (fun hs91 => ?_)
              ·skip
               refine wl_g ?_
               refine wl_val rfl (ex_fieldAddr rfl Try.fld25_1) ?_
               refine wl_g ?_
               refine wl_val rfl (ex_load1 rfl Try.agg21 (cell_nth hB148 rfl)) ?_
               refine wl_g ?_
               refine wl_val rfl (ex_eql rfl rfl) ?_
               refine wl_pt ?_
               refine wl_m ?_
               refine wl_split (t := 96) rfl (fun hs96 => ?_) (fun hs96 => ?_)
               ·skip
                refine wl_g ?_
                refine wl_val rfl (ex_fieldAddr rfl Try.fld25_2) ?_
                refine wl_g ?_
                refine wl_val rfl (ex_load1 rfl Try.agg22 (cell_nth hB148 rfl)) ?_
                refine wl_g ?_
                refine wl_val rfl (ex_len_slice rfl Try.underlying22 rfl) ?_
                refine wl_g ?_
                refine wl_val rfl (ex_eql rfl rfl) ?_
                refine wl_pt ?_
                refine wl_m ?_
                refine wl_split (t := 102) rfl (fun hs102 => ?_) (fun hs102 => ?_)
                ·skip
                 refine wl_g ?_
                 refine wl_val rfl (ex_fieldAddr rfl Try.fld25_3) ?_
                 refine wl_g ?_
                 refine wl_val rfl (ex_load1 rfl Try.agg3 (cell_nth hB148 rfl)) ?_
                 refine wl_g ?_
                 refine wl_val rfl (ex_eql rfl rfl) ?_
                 refine wl_pt ?_
                 refine wl_m ?_
                 refine wl_split (t := 107) rfl (fun hs107 => ?_) (fun hs107 => ?_)
                 ·skip
                  refine wl_g ?_
                  refine wl_val rfl (ex_fieldAddr rfl Try.fld25_4) ?_
                  refine wl_g ?_
                  refine wl_val rfl (ex_load1 rfl Try.agg3 (cell_nth hB148 rfl)) ?_
                  refine wl_g ?_
                  refine wl_val rfl (ex_eql rfl rfl) ?_
                  refine wl_pt ?_
                  refine wl_m ?_
                  refine wl_split (t := 112) rfl (fun hs112 => ?_) (fun hs112 => ?_)
                  ·skip
                   refine wl_g ?_
                   refine wl_val rfl (ex_fieldAddr rfl Try.fld25_5) ?_
                   refine wl_g ?_
                   refine wl_val rfl (ex_load1 rfl Try.agg4 (cell_nth hB148 rfl)) ?_
                   refine wl_g ?_
                   refine wl_val rfl (ex_notb rfl) ?_
                   refine wl_pt ?_
                   refine wl_m ?_
                   refine wl_splitb (t := 117) rfl (fun hs117 => ?_) (fun hs117 => ?_)
                   ·skip
                    refine wl_g ?_
                    refine wl_val rfl (ex_fieldAddr rfl Try.fld25_6) ?_
                    refine wl_g ?_
                    refine wl_val rfl (ex_load1 rfl Try.agg3 (cell_nth hB148 rfl)) ?_
                    refine wl_g ?_
                    refine wl_val rfl (ex_eql rfl rfl) ?_
                    refine wl_pt ?_
                    refine wl_m ?_
                    refine wl_split (t := 122) rfl (fun hs122 => ?_) (fun hs122 => ?_)
                    ·skip
                     refine wl_g ?_
                     refine wl_val rfl (ex_fieldAddr rfl Try.fld25_7) ?_
                     refine wl_g ?_
                     refine wl_val rfl (ex_load1 rfl Try.agg9 (cell_nth hB148 rfl)) ?_
                     refine wl_g ?_
                     refine wl_val rfl (ex_eqs rfl rfl) ?_
                     refine wl_pt ?_
                     refine wl_a ?_
                     refine wl_nil (nrm_then ?_)
                     refine cw_ret (body_ret1 rfl rfl ?_)
                     have hlz : x.kind = 6 ∨ x.lazy = false := by first | (left; omega) | (right; simpa using hs117)
                     refine ⟨_, rfl, ?_, hE150, fun hb => ?_⟩
                     · simp only [decide_eq_true_eq]
                       constructor
                       · intro hnm
                         exact ⟨(nodeP_iff x).2 (by constructor <;> first | omega | (right; assumption) | (left; omega) | exact hlz | exact .inr hnm | (intro hk; exact hcb.1 (by simpa using hc36)) | (intro hk; exfalso; omega)), by intro hk; exfalso; omega⟩
                       · intro hh; obtain ⟨hh, hh2⟩ := hh; have hf := (nodeP_iff x).1 hh; exact hf.zn.resolve_left (by omega)
                     · rw [if_neg (by omega)]; exact ⟨a, c, ob, ⟨hB151, hO152, hne⟩, .inl rfl⟩
                    ·skip
                     refine wl_n ?_
                     refine wl_n ?_
                     refine wl_n ?_
                     refine wl_pf ?_
                     refine wl_a ?_
                     refine wl_nil (nrm_then ?_)
                     refine cw_ret (body_ret1 rfl rfl ?_)
                     exact ⟨false, rfl, by simp only [Bool.false_eq_true, false_iff]; intro hh; obtain ⟨hh, hh2⟩ := hh; have hf := (nodeP_iff x).1 hh; (have f1 := hf.zc; omega), hE150, fun h => by cases h⟩
                   ·skip
                    refine wl_n ?_
                    refine wl_n ?_
                    refine wl_n ?_
                    refine wl_pf ?_
                    refine wl_m ?_
                    refine wl_n ?_
                    refine wl_n ?_
                    refine wl_n ?_
                    refine wl_pf ?_
                    refine wl_a ?_
                    refine wl_nil (nrm_then ?_)
                    refine cw_ret (body_ret1 rfl rfl ?_)
                    exact ⟨false, rfl, by simp only [Bool.false_eq_true, false_iff]; intro hh; obtain ⟨hh, hh2⟩ := hh; have hf := (nodeP_iff x).1 hh; (first | (rcases hf.zl with h | h; omega; rw [h] at hs117; cases hs117; done) | cases hs117), hE150, fun h => by cases h⟩
                  ·skip
                   refine wl_n ?_
                   refine wl_n ?_
                   refine wl_n ?_
                   refine wl_pf ?_
                   refine wl_m ?_
                   refine wl_n ?_
                   refine wl_n ?_
                   refine wl_n ?_
                   refine wl_pf ?_
                   refine wl_m ?_
                   refine wl_n ?_
                   refine wl_n ?_
                   refine wl_n ?_
                   refine wl_pf ?_
                   refine wl_a ?_
                   refine wl_nil (nrm_then ?_)
                   refine cw_ret (body_ret1 rfl rfl ?_)
                   exact ⟨false, rfl, by simp only [Bool.false_eq_true, false_iff]; intro hh; obtain ⟨hh, hh2⟩ := hh; have hf := (nodeP_iff x).1 hh; (have f1 := hf.zm2; omega), hE150, fun h => by cases h⟩
                 ·skip
                  refine wl_n ?_
                  refine wl_n ?_
                  refine wl_n ?_
                  refine wl_pf ?_
                  refine wl_m ?_
                  refine wl_n ?_
                  refine wl_n ?_
                  refine wl_n ?_
                  refine wl_pf ?_
                  refine wl_m ?_
                  refine wl_n ?_
                  refine wl_n ?_
                  refine wl_n ?_
                  refine wl_pf ?_
                  refine wl_m ?_
                  refine wl_n ?_
                  refine wl_n ?_
                  refine wl_n ?_
                  refine wl_pf ?_
                  refine wl_a ?_
                  refine wl_nil (nrm_then ?_)
                  refine cw_ret (body_ret1 rfl rfl ?_)
                  exact ⟨false, rfl, by simp only [Bool.false_eq_true, false_iff]; intro hh; obtain ⟨hh, hh2⟩ := hh; have hf := (nodeP_iff x).1 hh; (have f1 := hf.zm1; omega), hE150, fun h => by cases h⟩
                ·skip
                 refine wl_n ?_
                 refine wl_n ?_
                 refine wl_n ?_
                 refine wl_pf ?_
                 refine wl_m ?_
                 refine wl_n ?_
                 refine wl_n ?_
                 refine wl_n ?_
                 refine wl_pf ?_
                 refine wl_m ?_
                 refine wl_n ?_
                 refine wl_n ?_
                 refine wl_n ?_
                 refine wl_pf ?_
                 refine wl_m ?_
                 refine wl_n ?_
                 refine wl_n ?_
                 refine wl_n ?_
                 refine wl_pf ?_
                 refine wl_m ?_
                 refine wl_n ?_
                 refine wl_n ?_
                 refine wl_n ?_
                 refine wl_pf ?_
                 refine wl_a ?_
                 refine wl_nil (nrm_then ?_)
                 refine cw_ret (body_ret1 rfl rfl ?_)
                 exact ⟨false, rfl, by simp only [Bool.false_eq_true, false_iff]; intro hh; obtain ⟨hh, hh2⟩ := hh; have hf := (nodeP_iff x).1 hh; (have f1 := hf.zg; omega), hE150, fun h => by cases h⟩
               ·skip
                refine wl_n ?_
                refine wl_n ?_
                refine wl_n ?_
                refine wl_n ?_
                refine wl_pf ?_
                refine wl_m ?_
                refine wl_n ?_
                refine wl_n ?_
                refine wl_n ?_
                refine wl_pf ?_
                refine wl_m ?_
                refine wl_n ?_
                refine wl_n ?_
                refine wl_n ?_
                refine wl_pf ?_
                refine wl_m ?_
                refine wl_n ?_
                refine wl_n ?_
                refine wl_n ?_
                refine wl_pf ?_
                refine wl_m ?_
                refine wl_n ?_
                refine wl_n ?_
                refine wl_n ?_
                refine wl_pf ?_
                refine wl_m ?_
                refine wl_n ?_
                refine wl_n ?_
                refine wl_n ?_
                refine wl_pf ?_
                refine wl_a ?_
                refine wl_nil (nrm_then ?_)
                refine cw_ret (body_ret1 rfl rfl ?_)
                exact ⟨false, rfl, by simp only [Bool.false_eq_true, false_iff]; intro hh; obtain ⟨hh, hh2⟩ := hh; have hf := (nodeP_iff x).1 hh; (have f1 := hf.zr; omega), hE150, fun h => by cases h⟩
              ·skip
               refine wl_n ?_
               refine wl_n ?_
               refine wl_n ?_
               refine wl_pf ?_
               refine wl_m ?_
               refine wl_n ?_
               refine wl_n ?_
               refine wl_n ?_
               refine wl_n ?_
               refine wl_pf ?_
               refine wl_m ?_
               refine wl_n ?_
               refine wl_n ?_
               refine wl_n ?_
               refine wl_pf ?_
               refine wl_m ?_
               refine wl_n ?_
               refine wl_n ?_
               refine wl_n ?_
               refine wl_pf ?_
               refine wl_m ?_
               refine wl_n ?_
               refine wl_n ?_
               refine wl_n ?_
               refine wl_pf ?_
               refine wl_m ?_
               refine wl_n ?_
               refine wl_n ?_
               refine wl_n ?_
               refine wl_pf ?_
               refine wl_m ?_
               refine wl_n ?_
               refine wl_n ?_
               refine wl_n ?_
               refine wl_pf ?_
               refine wl_a ?_
               refine wl_nil (nrm_then ?_)
               refine cw_ret (body_ret1 rfl rfl ?_)
               exact ⟨false, rfl, by simp only [Bool.false_eq_true, false_iff]; intro hh; obtain ⟨hh, hh2⟩ := hh; have hf := (nodeP_iff x).1 hh; (have f1 := hf.two; have f2 := hf.rep4; have f3 := hf.grp; have f4 := hf.leaf; omega), hE150, fun h => by cases h⟩
           ·skip
            refine wl_n ?_
            refine wl_n ?_
            refine wl_n ?_
            refine wl_n ?_
            refine wl_n ?_
            refine wl_n ?_
            refine wl_u ?_
            refine wl_u ?_
            refine wl_u ?_
            refine wl_n ?_
            refine wl_g ?_
            refine wl_pf ?_
            refine wl_pf ?_
            refine wl_nil (nrm_then ?_)
            refine cw_false rfl ?_
            refine cw_skip (nrm_then ?_)
            refine cw_seq ?_
            refine cw_region ?_
            refine wl_val rfl (ex_fieldAddr rfl Try.fld25_3) ?_
            refine wl_store1 rfl rfl (by first | rfl | assumption) Try.size3 hB50 rfl fun w154 hB155 hw156 => ?_
            have hE157 := hE46.step hw156 hG18.mem1
            have hB158 := hw156.blk hB47 hA15.nmem1
            have hO159 := hO48.evo hw156 hA16.own1
            have hB160 := hw156.blk hB49 hA17.nmem1
            try simp only [List.setIfInBounds_toArray, List.set_cons_zero, List.set_cons_succ, Nat.reduceAdd, Nat.zero_add, Nat.add_zero] at hB155
            refine wl_val rfl (ex_fieldAddr rfl Try.fld25_4) ?_
            refine wl_store1 rfl rfl (by first | rfl | assumption) Try.size3 hB155 rfl fun w161 hB162 hw163 => ?_
            have hE164 := hE157.step hw163 hG18.mem1
            have hB165 := hw163.blk hB158 hA15.nmem1
            have hO166 := hO159.evo hw163 hA16.own1
            have hB167 := hw163.blk hB160 hA17.nmem1
            try simp only [List.setIfInBounds_toArray, List.set_cons_zero, List.set_cons_succ, Nat.reduceAdd, Nat.zero_add, Nat.add_zero] at hB162
            refine wl_val rfl (ex_fieldAddr rfl Try.fld25_5) ?_
            refine wl_store1 rfl rfl (by first | rfl | assumption) Try.size4 hB162 rfl fun w168 hB169 hw170 => ?_
            have hE171 := hE164.step hw170 hG18.mem1
            have hB172 := hw170.blk hB165 hA15.nmem1
            have hO173 := hO166.evo hw170 hA16.own1
            have hB174 := hw170.blk hB167 hA17.nmem1
            try simp only [List.setIfInBounds_toArray, List.set_cons_zero, List.set_cons_succ, Nat.reduceAdd, Nat.zero_add, Nat.add_zero] at hB169
            refine wl_nil (nrm_then ?_)
            refine cw_region ?_
            refine wl_a ?_
            refine wl_nil (nrm_block (nrm_then ?_))
            refine cw_seq ?_
            refine cw_region ?_
            refine wl_val rfl (ex_fieldAddr rfl Try.fld25_8) ?_
            refine wl_val rfl (ex_load1 rfl Try.agg23 (cell_nth hB174 rfl)) ?_
            refine wl_val rfl (ex_len_slice rfl Try.underlying23 rfl) ?_
            refine wl_m ?_
            refine wl_val rfl (ex_eql rfl rfl) ?_
            refine wl_m ?_
            refine wl_split (t := 91) rfl (fun hs91 => ?_) (fun hs91 => ?_)
            ·skip
             refine wl_g ?_
             refine wl_val rfl (ex_fieldAddr rfl Try.fld25_1) ?_
             refine wl_g ?_
             refine wl_val rfl (ex_load1 rfl Try.agg21 (cell_nth hB169 rfl)) ?_
             refine wl_g ?_
             refine wl_val rfl (ex_eql rfl rfl) ?_
             refine wl_pt ?_
             refine wl_m ?_
             refine wl_split (t := 96) rfl (fun hs96 => ?_) (fun hs96 => ?_)
             ·skip
              refine wl_g ?_
              refine wl_val rfl (ex_fieldAddr rfl Try.fld25_2) ?_
              refine wl_g ?_
              refine wl_val rfl (ex_load1 rfl Try.agg22 (cell_nth hB169 rfl)) ?_
              refine wl_g ?_
              refine wl_val rfl (ex_len_slice rfl Try.underlying22 rfl) ?_
              refine wl_g ?_
              refine wl_val rfl (ex_eql rfl rfl) ?_
              refine wl_pt ?_
              refine wl_m ?_
              refine wl_split (t := 102) rfl (fun hs102 => ?_) (fun hs102 => ?_)
              ·skip
               refine wl_g ?_
               refine wl_val rfl (ex_fieldAddr rfl Try.fld25_3) ?_
               refine wl_g ?_
               refine wl_val rfl (ex_load1 rfl Try.agg3 (cell_nth hB169 rfl)) ?_
               refine wl_g ?_
               refine wl_val rfl (ex_eql rfl rfl) ?_
               refine wl_pt ?_
               refine wl_m ?_
               refine wl_split (t := 107) rfl (fun hs107 => ?_) (fun hs107 => ?_)
               ·skip
                refine wl_g ?_
                refine wl_val rfl (ex_fieldAddr rfl Try.fld25_4) ?_
                refine wl_g ?_
                refine wl_val rfl (ex_load1 rfl Try.agg3 (cell_nth hB169 rfl)) ?_
                refine wl_g ?_
                refine wl_val rfl (ex_eql rfl rfl) ?_
                refine wl_pt ?_
                refine wl_m ?_
                refine wl_split (t := 112) rfl (fun hs112 => ?_) (fun hs112 => ?_)
                ·skip
                 refine wl_g ?_
                 refine wl_val rfl (ex_fieldAddr rfl Try.fld25_5) ?_
                 refine wl_g ?_
                 refine wl_val rfl (ex_load1 rfl Try.agg4 (cell_nth hB169 rfl)) ?_
                 refine wl_g ?_
                 refine wl_val rfl (ex_notb rfl) ?_
                 refine wl_pt ?_
                 refine wl_m ?_
                 refine wl_splitb (t := 117) rfl (fun hs117 => ?_) (fun hs117 => ?_)
                 ·skip
                  refine wl_g ?_
                  refine wl_val rfl (ex_fieldAddr rfl Try.fld25_6) ?_
                  refine wl_g ?_
                  refine wl_val rfl (ex_load1 rfl Try.agg3 (cell_nth hB169 rfl)) ?_
                  refine wl_g ?_
                  refine wl_val rfl (ex_eql rfl rfl) ?_
                  refine wl_pt ?_
                  refine wl_m ?_
                  refine wl_split (t := 122) rfl (fun hs122 => ?_) (fun hs122 => ?_)
                  ·skip
                   refine wl_g ?_
                   refine wl_val rfl (ex_fieldAddr rfl Try.fld25_7) ?_
                   refine wl_g ?_
                   refine wl_val rfl (ex_load1 rfl Try.agg9 (cell_nth hB169 rfl)) ?_
                   refine wl_g ?_
                   refine wl_val rfl (ex_eqs rfl rfl) ?_
                   refine wl_pt ?_
                   refine wl_a ?_
                   refine wl_nil (nrm_then ?_)
                   refine cw_ret (body_ret1 rfl rfl ?_)
                   have hlz : x.kind = 6 ∨ x.lazy = false := by first | (left; omega) | (right; simpa using hs117)
                   refine ⟨_, rfl, ?_, hE171, fun hb => ?_⟩
                   · simp only [decide_eq_true_eq]
                     constructor
                     · intro hnm
                       exact ⟨(nodeP_iff x).2 (by constructor <;> first | omega | (right; assumption) | (left; omega) | exact hlz | exact .inr hnm | (intro hk; exact hcb.1 (by simpa using hc36)) | (intro hk; exfalso; omega)), by intro hk; exfalso; omega⟩
                     · intro hh; obtain ⟨hh, hh2⟩ := hh; have hf := (nodeP_iff x).1 hh; exact hf.zn.resolve_left (by omega)
                   · rw [if_neg (by omega)]; exact ⟨a, c, ob, ⟨hB172, hO173, hne⟩, .inl rfl⟩
                  ·skip
                   refine wl_n ?_
                   refine wl_n ?_
                   refine wl_n ?_
                   refine wl_pf ?_
                   refine wl_a ?_
                   refine wl_nil (nrm_then ?_)
                   refine cw_ret (body_ret1 rfl rfl ?_)
                   exact ⟨false, rfl, by simp only [Bool.false_eq_true, false_iff]; intro hh; obtain ⟨hh, hh2⟩ := hh; have hf := (nodeP_iff x).1 hh; (have f1 := hf.zc; omega), hE171, fun h => by cases h⟩
                 ·skip
                  refine wl_n ?_
                  refine wl_n ?_
                  refine wl_n ?_
                  refine wl_pf ?_
                  refine wl_m ?_
                  refine wl_n ?_
                  refine wl_n ?_
                  refine wl_n ?_
                  refine wl_pf ?_
                  refine wl_a ?_
                  refine wl_nil (nrm_then ?_)
                  refine cw_ret (body_ret1 rfl rfl ?_)
                  exact ⟨false, rfl, by simp only [Bool.false_eq_true, false_iff]; intro hh; obtain ⟨hh, hh2⟩ := hh; have hf := (nodeP_iff x).1 hh; (first | (rcases hf.zl with h | h; omega; rw [h] at hs117; cases hs117; done) | cases hs117), hE171, fun h => by cases h⟩
                ·skip
                 refine wl_n ?_
                 refine wl_n ?_
                 refine wl_n ?_
                 refine wl_pf ?_
                 refine wl_m ?_
                 refine wl_n ?_
                 refine wl_n ?_
                 refine wl_n ?_
                 refine wl_pf ?_
                 refine wl_m ?_
                 refine wl_n ?_
                 refine wl_n ?_
                 refine wl_n ?_
                 refine wl_pf ?_
                 refine wl_a ?_
                 refine wl_nil (nrm_then ?_)
                 refine cw_ret (body_ret1 rfl rfl ?_)
                 exact ⟨false, rfl, by simp only [Bool.false_eq_true, false_iff]; intro hh; obtain ⟨hh, hh2⟩ := hh; have hf := (nodeP_iff x).1 hh; (have f1 := hf.zm2; omega), hE171, fun h => by cases h⟩
               ·skip
                refine wl_n ?_
                refine wl_n ?_
                refine wl_n ?_
                refine wl_pf ?_
                refine wl_m ?_
                refine wl_n ?_
                refine wl_n ?_
                refine wl_n ?_
                refine wl_pf ?_
                refine wl_m ?_
                refine wl_n ?_
                refine wl_n ?_
                refine wl_n ?_
                refine wl_pf ?_
                refine wl_m ?_
                refine wl_n ?_
                refine wl_n ?_
                refine wl_n ?_
                refine wl_pf ?_
                refine wl_a ?_
                refine wl_nil (nrm_then ?_)
                refine cw_ret (body_ret1 rfl rfl ?_)
                exact ⟨false, rfl, by simp only [Bool.false_eq_true, false_iff]; intro hh; obtain ⟨hh, hh2⟩ := hh; have hf := (nodeP_iff x).1 hh; (have f1 := hf.zm1; omega), hE171, fun h => by cases h⟩
              ·skip
               refine wl_n ?_
               refine wl_n ?_
               refine wl_n ?_
               refine wl_pf ?_
               refine wl_m ?_
               refine wl_n ?_
               refine wl_n ?_
               refine wl_n ?_
               refine wl_pf ?_
               refine wl_m ?_
               refine wl_n ?_
               refine wl_n ?_
               refine wl_n ?_
               refine wl_pf ?_
               refine wl_m ?_
               refine wl_n ?_
               refine wl_n ?_
               refine wl_n ?_
               refine wl_pf ?_
               refine wl_m ?_
               refine wl_n ?_
               refine wl_n ?_
               refine wl_n ?_
               refine wl_pf ?_
               refine wl_a ?_
               refine wl_nil (nrm_then ?_)
               refine cw_ret (body_ret1 rfl rfl ?_)
               exact ⟨false, rfl, by simp only [Bool.false_eq_true, false_iff]; intro hh; obtain ⟨hh, hh2⟩ := hh; have hf := (nodeP_iff x).1 hh; (have f1 := hf.zg; omega), hE171, fun h => by cases h⟩
             ·skip
              refine wl_n ?_
              refine wl_n ?_
              refine wl_n ?_
              refine wl_n ?_
              refine wl_pf ?_
              refine wl_m ?_
              refine wl_n ?_
              refine wl_n ?_
              refine wl_n ?_
              refine wl_pf ?_
              refine wl_m ?_
              refine wl_n ?_
              refine wl_n ?_
              refine wl_n ?_
              refine wl_pf ?_
              refine wl_m ?_
              refine wl_n ?_
              refine wl_n ?_
              refine wl_n ?_
              refine wl_pf ?_
              refine wl_m ?_
              refine wl_n ?_
              refine wl_n ?_
              refine wl_n ?_
              refine wl_pf ?_
              refine wl_m ?_
              refine wl_n ?_
              refine wl_n ?_
              refine wl_n ?_
              refine wl_pf ?_
              refine wl_a ?_
              refine wl_nil (nrm_then ?_)
              refine cw_ret (body_ret1 rfl rfl ?_)
              exact ⟨false, rfl, by simp only [Bool.false_eq_true, false_iff]; intro hh; obtain ⟨hh, hh2⟩ := hh; have hf := (nodeP_iff x).1 hh; (have f1 := hf.zr; omega), hE171, fun h => by cases h⟩
            ·skip
             refine wl_n ?_
             refine wl_n ?_
             refine wl_n ?_
             refine wl_pf ?_
             refine wl_m ?_
             refine wl_n ?_
             refine wl_n ?_
             refine wl_n ?_
             refine wl_n ?_
             refine wl_pf ?_
             refine wl_m ?_
             refine wl_n ?_
             refine wl_n ?_
             refine wl_n ?_
             refine wl_pf ?_
             refine wl_m ?_
             refine wl_n ?_
             refine wl_n ?_
             refine wl_n ?_
             refine wl_pf ?_
             refine wl_m ?_
             refine wl_n ?_
             refine wl_n ?_
             refine wl_n ?_
             refine wl_pf ?_
             refine wl_m ?_
             refine wl_n ?_
             refine wl_n ?_
             refine wl_n ?_
             refine wl_pf ?_
             refine wl_m ?_
             refine wl_n ?_
             refine wl_n ?_
             refine wl_n ?_
             refine wl_pf ?_
             refine wl_a ?_
             refine wl_nil (nrm_then ?_)
             refine cw_ret (body_ret1 rfl rfl ?_)
             exact ⟨false, rfl, by simp only [Bool.false_eq_true, false_iff]; intro hh; obtain ⟨hh, hh2⟩ := hh; have hf := (nodeP_iff x).1 hh; (have f1 := hf.two; have f2 := hf.rep4; have f3 := hf.grp; have f4 := hf.leaf; omega), hE171, fun h => by cases h⟩
        ·skip
         refine cw_seq ?_
         refine cw_region ?_
         refine wl_val rfl (ex_eql rfl rfl) ?_
         refine wl_a ?_
         refine wl_nil (nrm_then ?_)
         refine cw_if rfl (fun hc75 => ?_) (fun hc75 => ?_)
         ·skip
          refine cw_seq ?_
          refine cw_seq ?_
          refine cw_region ?_
          refine wl_m ?_
          refine wl_val rfl (ex_fieldAddr rfl Try.fld25_6) ?_
          refine wl_val rfl (ex_load1 rfl Try.agg3 (cell_nth hB49 rfl)) ?_
          refine wl_val rfl (ex_fieldAddr rfl Try.fld25_7) ?_
          refine wl_val rfl (ex_load1 rfl Try.agg9 (cell_nth hB49 rfl)) ?_
          have hszc := (hE46).size
          have hlt3 := Lt.blk hB49
          have hlt5 := Lt.blk hB50
          refine wl_call1 (vs := [_, _, _]) Try.goes79 rfl (group_ok ⟨hB47, hO48, hne⟩ hl bl2) rfl ?_
          rintro _ w175 ⟨gb, rfl, hgb, hw176, hgs⟩
          have hE177 := hE46.step hw176 (fun y hy => .inl hy)
          have hB178 := hw176.blk hB49 (nmem2 hA5.symm hA6.symm)
          have hB179 := hw176.blk hB50 (nmem2 hA15.symm hA16.symm)
          refine wl_val rfl (ex_notb rfl) ?_
          refine wl_nil (nrm_then ?_)
          refine cw_ifb rfl (fun hc83 => ?_) (fun hc83 => ?_)
          ·skip
           refine cw_seq ?_
           refine cw_region ?_
           refine wl_a ?_
           refine wl_nil (nrm_then ?_)
           refine cw_ret (ret_then (ret_block (ret_then (body_ret1 rfl rfl ?_))))
           exact ⟨false, rfl, by simp only [Bool.false_eq_true, false_iff]; intro hh; obtain ⟨hh, hh2⟩ := hh; have hf := (nodeP_iff x).1 hh; (rw [hgb.2 (hh2 (by omega))] at hc83; cases hc83), hE177, fun h => by cases h⟩
          ·skip
           obtain ⟨a2, c2, ob2, hJ2, hob2⟩ := hgs (by simpa using hc83)
           have hgb2 := hgb.1 (by simpa using hc83)
           have hA3 := ap_ob hA6.symm hlt3 hob2
           have hA5 := ap_ob hA16.symm hlt5 hob2
           refine cw_skip (nrm_then ?_)
           refine cw_seq ?_
           refine cw_region ?_
           refine wl_val rfl (ex_fieldAddr rfl Try.fld25_6) ?_
           refine wl_store1 rfl rfl (by first | rfl | assumption) Try.size3 hB179 rfl fun w180 hB181 hw182 => ?_
           have hE183 := hE177.step hw182 hG18.mem1
           have hB184 := hw182.blk hB178 hA17.nmem1
           have hB185 := hw182.blk hJ2.blk hA15.nmem1
           have hO186 := hJ2.own.evo hw182 hA5.symm.own1
           try simp only [List.setIfInBounds_toArray, List.set_cons_zero, List.set_cons_succ, Nat.reduceAdd, Nat.zero_add, Nat.add_zero] at hB181
           refine wl_val rfl (ex_fieldAddr rfl Try.fld25_7) ?_
           refine wl_store1 rfl rfl (by first | rfl | assumption) Try.size9 hB181 rfl fun w187 hB188 hw189 => ?_
           have hE190 := hE183.step hw189 hG18.mem1
           have hB191 := hw189.blk hB184 hA17.nmem1
           have hB192 := hw189.blk hB185 hA15.nmem1
           have hO193 := hO186.evo hw189 hA5.symm.own1
           try simp only [List.setIfInBounds_toArray, List.set_cons_zero, List.set_cons_succ, Nat.reduceAdd, Nat.zero_add, Nat.add_zero] at hB188
           refine wl_nil (nrm_then ?_)
           refine cw_region ?_
           refine wl_a ?_
           refine wl_nil (nrm_block (nrm_then ?_))
           refine cw_seq ?_
           refine cw_region ?_
           refine wl_val rfl (ex_fieldAddr rfl Try.fld25_8) ?_
           refine wl_val rfl (ex_load1 rfl Try.agg23 (cell_nth hB191 rfl)) ?_
           refine wl_val rfl (ex_len_slice rfl Try.underlying23 rfl) ?_
           refine wl_m ?_
           refine wl_val rfl (ex_eql rfl rfl) ?_
           refine wl_m ?_
           refine wl_split (t := 91) rfl (fun hs91 => ?_) (fun hs91 => ?_)
           ·skip
            refine wl_g ?_
            refine wl_val rfl (ex_fieldAddr rfl Try.fld25_1) ?_
            refine wl_g ?_
            refine wl_val rfl (ex_load1 rfl Try.agg21 (cell_nth hB188 rfl)) ?_
            refine wl_g ?_
            refine wl_val rfl (ex_eql rfl rfl) ?_
            refine wl_pt ?_
            refine wl_m ?_
            refine wl_split (t := 96) rfl (fun hs96 => ?_) (fun hs96 => ?_)
            ·skip
             refine wl_g ?_
             refine wl_val rfl (ex_fieldAddr rfl Try.fld25_2) ?_
             refine wl_g ?_
             refine wl_val rfl (ex_load1 rfl Try.agg22 (cell_nth hB188 rfl)) ?_
             refine wl_g ?_
             refine wl_val rfl (ex_len_slice rfl Try.underlying22 rfl) ?_
             refine wl_g ?_
             refine wl_val rfl (ex_eql rfl rfl) ?_
             refine wl_pt ?_
             refine wl_m ?_
             refine wl_split (t := 102) rfl (fun hs102 => ?_) (fun hs102 => ?_)
             ·skip
              refine wl_g ?_
              refine wl_val rfl (ex_fieldAddr rfl Try.fld25_3) ?_
              refine wl_g ?_
              refine wl_val rfl (ex_load1 rfl Try.agg3 (cell_nth hB188 rfl)) ?_
              refine wl_g ?_
              refine wl_val rfl (ex_eql rfl rfl) ?_
              refine wl_pt ?_
              refine wl_m ?_
              refine wl_split (t := 107) rfl (fun hs107 => ?_) (fun hs107 => ?_)
              ·skip
               refine wl_g ?_
               refine wl_val rfl (ex_fieldAddr rfl Try.fld25_4) ?_
               refine wl_g ?_
               refine wl_val rfl (ex_load1 rfl Try.agg3 (cell_nth hB188 rfl)) ?_
               refine wl_g ?_
               refine wl_val rfl (ex_eql rfl rfl) ?_
               refine wl_pt ?_
               refine wl_m ?_
               refine wl_split (t := 112) rfl (fun hs112 => ?_) (fun hs112 => ?_)
               ·skip
                refine wl_g ?_
                refine wl_val rfl (ex_fieldAddr rfl Try.fld25_5) ?_
                refine wl_g ?_
                refine wl_val rfl (ex_load1 rfl Try.agg4 (cell_nth hB188 rfl)) ?_
                refine wl_g ?_
                refine wl_val rfl (ex_notb rfl) ?_
                refine wl_pt ?_
                refine wl_m ?_
                refine wl_splitb (t := 117) rfl (fun hs117 => ?_) (fun hs117 => ?_)
                ·skip
                 refine wl_g ?_
                 refine wl_val rfl (ex_fieldAddr rfl Try.fld25_6) ?_
                 refine wl_g ?_
                 refine wl_val rfl (ex_load1 rfl Try.agg3 (cell_nth hB188 rfl)) ?_
                 refine wl_g ?_
                 refine wl_val rfl (ex_eql rfl rfl) ?_
                 refine wl_pt ?_
                 refine wl_m ?_
                 refine wl_split (t := 122) rfl (fun hs122 => ?_) (fun hs122 => ?_)
                 ·skip
                  refine wl_g ?_
                  refine wl_val rfl (ex_fieldAddr rfl Try.fld25_7) ?_
                  refine wl_g ?_
                  refine wl_val rfl (ex_load1 rfl Try.agg9 (cell_nth hB188 rfl)) ?_
                  refine wl_g ?_
                  refine wl_val rfl (ex_eqs rfl rfl) ?_
                  refine wl_pt ?_
                  refine wl_a ?_
                  refine wl_nil (nrm_then ?_)
                  refine cw_ret (body_ret1 rfl rfl ?_)
                  have hob3 : ob2 = ob ∨ ∃ g, ob2 = some g ∧ w.heap.size ≤ g := hob2.imp id (fun ⟨g, h1, h2⟩ => ⟨g, h1, Nat.le_trans hszc h2⟩)
                  have hlz : x.kind = 6 ∨ x.lazy = false := by first | (left; omega) | (right; simpa using hs117)
                  refine ⟨_, rfl, ?_, hE190, fun hb => ?_⟩
                  · simp only [decide_eq_true_eq]
                    constructor
                    · intro hnm
                      exact ⟨(nodeP_iff x).2 (by constructor <;> first | omega | (right; assumption) | (left; omega) | exact hlz | (intro hk; exact hcb.1 (by simpa using hc36)) | (intro hk; exfalso; omega)), by intro _; exact hgb2⟩
                    · intro hh; obtain ⟨hh, hh2⟩ := hh; have hf := (nodeP_iff x).1 hh; trivial
                  · rw [if_pos (by omega)]; exact ⟨a2, c2, ob2, ⟨hB192, hO193, hJ2.ne⟩, hob3⟩
                 ·skip
                  refine wl_n ?_
                  refine wl_n ?_
                  refine wl_n ?_
                  refine wl_pf ?_
                  refine wl_a ?_
                  refine wl_nil (nrm_then ?_)
                  refine cw_ret (body_ret1 rfl rfl ?_)
                  exact ⟨false, rfl, by simp only [Bool.false_eq_true, false_iff]; intro hh; obtain ⟨hh, hh2⟩ := hh; have hf := (nodeP_iff x).1 hh; (have f1 := hf.zc; omega), hE190, fun h => by cases h⟩
                ·skip
                 refine wl_n ?_
                 refine wl_n ?_
                 refine wl_n ?_
                 refine wl_pf ?_
                 refine wl_m ?_
                 refine wl_n ?_
                 refine wl_n ?_
                 refine wl_n ?_
                 refine wl_pf ?_
                 refine wl_a ?_
                 refine wl_nil (nrm_then ?_)
                 refine cw_ret (body_ret1 rfl rfl ?_)
                 exact ⟨false, rfl, by simp only [Bool.false_eq_true, false_iff]; intro hh; obtain ⟨hh, hh2⟩ := hh; have hf := (nodeP_iff x).1 hh; (first | (rcases hf.zl with h | h; omega; rw [h] at hs117; cases hs117; done) | cases hs117), hE190, fun h => by cases h⟩
               ·skip
                refine wl_n ?_
                refine wl_n ?_
                refine wl_n ?_
                refine wl_pf ?_
                refine wl_m ?_
                refine wl_n ?_
                refine wl_n ?_
                refine wl_n ?_
                refine wl_pf ?_
                refine wl_m ?_
                refine wl_n ?_
                refine wl_n ?_
                refine wl_n ?_
                refine wl_pf ?_
                refine wl_a ?_
                refine wl_nil (nrm_then ?_)
                refine cw_ret (body_ret1 rfl rfl ?_)
                exact ⟨false, rfl, by simp only [Bool.false_eq_true, false_iff]; intro hh; obtain ⟨hh, hh2⟩ := hh; have hf := (nodeP_iff x).1 hh; (have f1 := hf.zm2; omega), hE190, fun h => by cases h⟩
              ·skip
               refine wl_n ?_
               refine wl_n ?_
               refine wl_n ?_
               refine wl_pf ?_
               refine wl_m ?_
               refine wl_n ?_
               refine wl_n ?_
               refine wl_n ?_
               refine wl_pf ?_
               refine wl_m ?_
               refine wl_n ?_
               refine wl_n ?_
               refine wl_n ?_
               refine wl_pf ?_
               refine wl_m ?_
               refine wl_n ?_
               refine wl_n ?_
               refine wl_n ?_
               refine wl_pf ?_
               refine wl_a ?_
               refine wl_nil (nrm_then ?_)
               refine cw_ret (body_ret1 rfl rfl ?_)
               exact ⟨false, rfl, by simp only [Bool.false_eq_true, false_iff]; intro hh; obtain ⟨hh, hh2⟩ := hh; have hf := (nodeP_iff x).1 hh; (have f1 := hf.zm1; omega), hE190, fun h => by cases h⟩
             ·skip
              refine wl_n ?_
              refine wl_n ?_
              refine wl_n ?_
              refine wl_pf ?_
              refine wl_m ?_
              refine wl_n ?_
              refine wl_n ?_
              refine wl_n ?_
              refine wl_pf ?_
              refine wl_m ?_
              refine wl_n ?_
              refine wl_n ?_
              refine wl_n ?_
              refine wl_pf ?_
              refine wl_m ?_
              refine wl_n ?_
              refine wl_n ?_
              refine wl_n ?_
              refine wl_pf ?_
              refine wl_m ?_
              refine wl_n ?_
              refine wl_n ?_
              refine wl_n ?_
              refine wl_pf ?_
              refine wl_a ?_
              refine wl_nil (nrm_then ?_)
              refine cw_ret (body_ret1 rfl rfl ?_)
              exact ⟨false, rfl, by simp only [Bool.false_eq_true, false_iff]; intro hh; obtain ⟨hh, hh2⟩ := hh; have hf := (nodeP_iff x).1 hh; (have f1 := hf.zg; omega), hE190, fun h => by cases h⟩
            ·skip
             refine wl_n ?_
             refine wl_n ?_
             refine wl_n ?_
             refine wl_n ?_
             refine wl_pf ?_
             refine wl_m ?_
             refine wl_n ?_
             refine wl_n ?_
             refine wl_n ?_
             refine wl_pf ?_
             refine wl_m ?_
             refine wl_n ?_
             refine wl_n ?_
             refine wl_n ?_
             refine wl_pf ?_
             refine wl_m ?_
             refine wl_n ?_
             refine wl_n ?_
             refine wl_n ?_
             refine wl_pf ?_
             refine wl_m ?_
             refine wl_n ?_
             refine wl_n ?_
             refine wl_n ?_
             refine wl_pf ?_
             refine wl_m ?_
             refine wl_n ?_
             refine wl_n ?_
             refine wl_n ?_
             refine wl_pf ?_
             refine wl_a ?_
             refine wl_nil (nrm_then ?_)
             refine cw_ret (body_ret1 rfl rfl ?_)
             exact ⟨false, rfl, by simp only [Bool.false_eq_true, false_iff]; intro hh; obtain ⟨hh, hh2⟩ := hh; have hf := (nodeP_iff x).1 hh; (have f1 := hf.zr; omega), hE190, fun h => by cases h⟩
           ·skip
            refine wl_n ?_
            refine wl_n ?_
            refine wl_n ?_
            refine wl_pf ?_
            refine wl_m ?_
            refine wl_n ?_
            refine wl_n ?_
            refine wl_n ?_
            refine wl_n ?_
            refine wl_pf ?_
            refine wl_m ?_
            refine wl_n ?_
            refine wl_n ?_
            refine wl_n ?_
            refine wl_pf ?_
            refine wl_m ?_
            refine wl_n ?_
            refine wl_n ?_
            refine wl_n ?_
            refine wl_pf ?_
            refine wl_m ?_
            refine wl_n ?_
            refine wl_n ?_
            refine wl_n ?_
            refine wl_pf ?_
            refine wl_m ?_
            refine wl_n ?_
            refine wl_n ?_
            refine wl_n ?_
            refine wl_pf ?_
            refine wl_m ?_
            refine wl_n ?_
            refine wl_n ?_
            refine wl_n ?_
            refine wl_pf ?_
            refine wl_a ?_
            refine wl_nil (nrm_then ?_)
            refine cw_ret (body_ret1 rfl rfl ?_)
            exact ⟨false, rfl, by simp only [Bool.false_eq_true, false_iff]; intro hh; obtain ⟨hh, hh2⟩ := hh; have hf := (nodeP_iff x).1 hh; (have f1 := hf.two; have f2 := hf.rep4; have f3 := hf.grp; have f4 := hf.leaf; omega), hE190, fun h => by cases h⟩
         ·skip
          refine cw_seq ?_
          refine cw_region ?_
          refine wl_a ?_
          refine wl_nil (nrm_then ?_)
          refine cw_ret (ret_block (ret_then (body_ret1 rfl rfl ?_)))
          exact ⟨false, rfl, by simp only [Bool.false_eq_true, false_iff]; intro hh; obtain ⟨hh, hh2⟩ := hh; have hf := (nodeP_iff x).1 hh; (have f1 := hf.kind1; have f2 := hf.kind2; omega), hE46, fun h => by cases h⟩

end Go.Proofs.Ytgboffefbpligaa
