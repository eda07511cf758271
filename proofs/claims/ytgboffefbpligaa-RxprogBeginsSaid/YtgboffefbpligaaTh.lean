/- How long a tree's code is: both sizes. -/
import Derived.Test.YtgboffefbpligaaTg
import Derived.Test.YtgboffefbpligaaPb
namespace Go.Proofs.Ytgboffefbpligaa
open Go.Proofs
open Go.W Go.RowKit
attribute [local irreducible] Decidable.decide
set_option linter.unusedSimpArgs false
set_option linter.unusedVariables false
theorem Try.goes10 : Goes Try.prog 10 := ⟨_, Try.func10, by kernel_rfl, by kernel_rfl⟩
theorem Try.goes22 : Goes Try.prog 22 := ⟨_, Try.func22, by kernel_rfl, by kernel_rfl⟩
theorem Try.goes29 : Goes Try.prog 29 := ⟨_, Try.func29, by kernel_rfl, by kernel_rfl⟩
theorem Try.goes30 : Goes Try.prog 30 := ⟨_, Try.func30, by kernel_rfl, by kernel_rfl⟩


theorem cap_two {E s e : Int} (he : e = E + 2) (hs : s = min E 10001) : min (s + 2) 10001 = min e 10001 := by subst he hs; omega
theorem ite_min (a b : Int) : (if b < a then b else a) = min a b := by omega
theorem step_cap {a b : Nat} {s r : Int} (hs : s = min (a : Int) 10001) (hr : r = min (b : Int) 10001) : min (s + r) 10001 = min (((a + b : Nat) : Int)) 10001 := by subst hs hr; omega

set_option maxHeartbeats 4000000 in
theorem size_step {n : Nat} (ih : ∀ {X : List Nat} {w : World} {vs : List Value} {t : Rx} (hx : RRx n X w vs t) (hg : Good t), Calls Try.prog 30 #[.agg vs.toArray] w (Ret fun v w' => v = .int .i64 (min (t.esz : Int) 10001) ∧ Evo [] w w')) {X : List Nat} {w : World} {vs : List Value} {t : Rx} (hx : RRx (n + 1) X w vs t) (hg : Good t) : Calls Try.prog 30 #[.agg vs.toArray] w (Ret fun v w' => v = .int .i64 (min (t.esz : Int) 10001) ∧ Evo [] w w') := by
  have hx0 := hx
  obtain ⟨m, ra, rc, ka, kc, hm, rfl, hrg, hk, bl1, bl2, bl3⟩ := hx.get
  obtain rfl : m = n := by omega
  obtain ⟨_, _, hke, hkc, e1⟩ := hk
  cases hke
  have hn := (nodeP_iff t).1 hg.node
  refine calls_of_cw (N := 64) Try.func30 rfl rfl rfl ?_
  refine cw_seq ?_
  refine cw_region ?_
  refine wl_boxA rfl rfl fun b1 w2 hB3 hs4 hw5 => ?_
  have hG6 := Ge.new (Evo.refl [] w) hs4
  have hE7 := (Evo.refl [] w).then hw5
  refine wl_a ?_
  refine wl_nil (nrm_then ?_)
  refine cw_seq ?_
  refine cw_region ?_
  refine wl_a ?_
  refine wl_nil (nrm_then ?_)
  refine cw_seq ?_
  refine cw_seq ?_
  refine cw_region ?_
  refine wl_val rfl (ex_fieldAddr rfl Try.fld25_8) ?_
  refine wl_val rfl (ex_load1 rfl Try.agg23 (cell_nth hB3 rfl)) ?_
  refine wl_val rfl (ex_len_slice rfl Try.underlying23 rfl) ?_
  refine wl_m ?_
  refine wl_nil (nrm_then ?_)
  refine cw_block ?_
  refine cw_loop (α := Nat × Int) ((0, 0)) (fun x => [(3, .int .i64 x.2), (9, .int .i64 (x.1 : Nat))]) [(1, _), (2, _), (7, _), (8, _)] (fun x wr => Evo [] w2 wr ∧ (x.1 ≤ t.kids.length ∧ x.2 = min (eszs (t.kids.take x.1) : Int) 10001)) (fun x => t.kids.length - x.1) ⟨rfl, rfl, trivial⟩ ⟨rfl, rfl, rfl, rfl, trivial⟩ ⟨Evo.refl _ _, ⟨Nat.zero_le _, by simp only [List.take_zero]; rfl⟩⟩ ?_
  rintro ⟨j, s⟩ wr8 ⟨hV9, ⟨hj, hs⟩⟩
  show CW _ _ _ _ [(3, .int .i64 s), (9, .int .i64 (j : Nat)), (1, _), (2, _), (7, _), (8, _)] _
  try dsimp only at hj
  try dsimp only at hs
  have hE10 := hE7.then hV9
  have hB11 := hV9.blk0 hB3
  refine cw_seq ?_
  refine cw_region ?_
  refine wl_val rfl (ex_lss rfl rfl) ?_
  refine wl_nil (nrm_then ?_)
  refine cw_seq ?_
  refine cw_if rfl (fun hc10 => ?_) (fun hc10 => ?_)
  ·skip
   have hj' : j < t.kids.length := by omega
   obtain ⟨b1, o1, vs1, ha1, hb1, hvl1, hc1, hrk⟩ := e1 j hj'
   obtain ⟨m1, ra1, rc1, ka1, kc1, rfl, rfl, -⟩ := id hrk.get
   refine cw_skip (nrm_then ?_)
   refine cw_seq ?_
   refine cw_block ?_
   refine cw_seq ?_
   refine cw_region ?_
   refine wl_val rfl (ex_indexAddr (n := j) (by rw [ha1]; rfl) rfl Try.elem23 (by omega)) ?_
   refine wl_val rfl (ex_loadA rfl Try.agg25 Try.size25 (vs := [_, _, _, _, _, _, _, _, _]) rfl (hc1.evo hE10 (by simp))) ?_
   refine wl_alloc rfl Try.zero25 fun b12 w13 hB14 hs15 hw16 => ?_
   have hA17 := Apart.new (Lt.blk hB11) hs15
   have hG18 := Ge.new hE10 hs15
   have hG19 := Ge.new hV9 hs15
   have hE20 := hE10.then hw16
   have hE21 := hV9.then hw16
   have hB22 := hw16.blk0 hB11
   refine wl_storeBlk rfl rfl Try.size25 hB14 rfl rfl ⟨by first | rfl | assumption, by first | rfl | assumption, by first | rfl | assumption, by first | rfl | assumption, by first | rfl | assumption, by first | rfl | assumption, by first | rfl | assumption, by first | rfl | assumption, by first | rfl | assumption, trivial⟩ fun w23 hB24 hw25 => ?_
   have hE26 := hE20.step hw25 hG18.mem1
   have hE27 := hE21.step hw25 hG19.mem1
   have hB28 := hw25.blk hB22 hA17.nmem1
   refine wl_nil (nrm_then ?_)
   refine cw_region ?_
   refine wl_m ?_
   refine wl_val rfl (ex_loadBlk rfl Try.agg25 Try.size25 hB24 rfl) ?_
   refine wl_call1 (vs := [_]) Try.goes30 rfl (ih (RRx.pers _ _ _ _ _ _ (hE26.mono (fun b hb => by cases hb)) hrk) (hg.kid _ (List.getElem_mem hj'))) rfl ?_
   rintro _ w29 ⟨rfl, hw30⟩
   have hE31 := hE26.then hw30
   have hE32 := hE27.then hw30
   have hB33 := hw30.blk0 hB28
   have hB34 := hw30.blk0 hB24
   refine wl_val rfl (ex_add_i64 rfl rfl (by omega) (by omega)) ?_
   refine wl_val rfl (ex_min rfl rfl) ?_
   refine wl_a ?_
   refine wl_nil (nrm_block (nrm_then ?_))
   refine cw_region ?_
   refine wl_val rfl (ex_add_i64 rfl rfl (by omega) (by omega)) ?_
   refine wl_m ?_
   refine wl_nil (nrm_same ?_)
   refine ⟨(j + 1, if 10001 < s + min (t.kids[j].esz : Int) 10001 then 10001 else s + min (t.kids[j].esz : Int) 10001), ?_, ⟨rfl, rfl, trivial⟩, ⟨rfl, rfl, rfl, rfl, trivial⟩, hE32, ?_⟩
   · (try dsimp only); omega
   ·skip
    try dsimp only
    exact ⟨by omega, by rw [eszs_take hj', ite_min]; exact step_cap hs rfl⟩
  ·skip
   have hall : s = min (eszs t.kids : Int) 10001 := by rw [hs, List.take_of_length_le (by omega)]
   have hs0 : 0 ≤ s := by omega
   have hs1 : s ≤ 10001 := by omega
   refine cw_exit (ex_then (ex_then (ex_here (nrm_then ?_))))
   refine cw_seq ?_
   refine cw_seq ?_
   refine cw_region ?_
   refine wl_val rfl (ex_fieldAddr rfl Try.fld25_0) ?_
   refine wl_val rfl (ex_load1 rfl Try.agg3 (cell_nth hB11 rfl)) ?_
   refine wl_nil (nrm_then ?_)
   refine cw_block ?_
   refine cw_seq ?_
   refine cw_seq ?_
   refine cw_region ?_
   refine wl_val rfl (ex_eql rfl rfl) ?_
   refine wl_a ?_
   refine wl_nil (nrm_then ?_)
   refine cw_if rfl (fun hc21 => ?_) (fun hc21 => ?_)
   ·skip
    refine cw_skip (nrm_then ?_)
    refine cw_if rfl (fun hc21 => ?_) (fun hc21 => ?_)
    ·skip
     refine cw_skip (nrm_block (nrm_then ?_))
     refine cw_seq ?_
     refine cw_region ?_
     refine wl_m ?_
     refine wl_val rfl (ex_min rfl rfl) ?_
     refine wl_a ?_
     refine wl_nil (nrm_then ?_)
     refine cw_ret (body_ret1 rfl rfl ?_)
     refine ⟨congrArg (Value.int .i64) ?_, hE10⟩
     rw [ite_min]
     first | (rw [esz1 (by omega), hall]; have hk0 : t.kids = [] := hg.node.leaf (by unfold Leafy; omega); rw [hk0]; rfl) | (rw [esz4 (by omega), hall]; omega)
    ·skip
     refine cw_seq ?_
     refine cw_region ?_
     refine wl_val rfl (ex_eql rfl rfl) ?_
     refine wl_a ?_
     refine wl_nil (nrm_then ?_)
     refine cw_if rfl (fun hc24 => ?_) (fun hc24 => ?_)
     ·skip
      have h52 := hn.two (by omega)
      refine cw_region ?_
      refine wl_m ?_
      refine wl_val rfl (ex_fieldAddr rfl Try.fld25_8) ?_
      refine wl_val rfl (ex_load1 rfl Try.agg23 (cell_nth hB11 rfl)) ?_
      refine wl_val rfl (ex_len_slice rfl Try.underlying23 rfl) ?_
      refine wl_val rfl (ex_sub_i64 rfl rfl (by omega) (by omega)) ?_
      refine wl_val rfl (ex_mul_i64 rfl rfl (by omega) (by omega)) ?_
      refine wl_val rfl (ex_add_i64 rfl rfl (by omega) (by omega)) ?_
      refine wl_a ?_
      refine wl_nil (nrm_block (nrm_then ?_))
      refine cw_seq ?_
      refine cw_region ?_
      refine wl_m ?_
      refine wl_val rfl (ex_min rfl rfl) ?_
      refine wl_a ?_
      refine wl_nil (nrm_then ?_)
      refine cw_ret (body_ret1 rfl rfl ?_)
      refine ⟨congrArg (Value.int .i64) ?_, hE10⟩
      rw [ite_min]
      rw [esz5 (by omega) (by omega), hall]; omega
     ·skip
      refine cw_seq ?_
      refine cw_region ?_
      refine wl_val rfl (ex_eql rfl rfl) ?_
      refine wl_a ?_
      refine wl_nil (nrm_then ?_)
      refine cw_if rfl (fun hc33 => ?_) (fun hc33 => ?_)
      ·skip
       refine cw_region ?_
       refine wl_m ?_
       refine wl_val rfl (ex_add_i64 rfl rfl (by omega) (by omega)) ?_
       refine wl_a ?_
       refine wl_nil (nrm_block (nrm_then ?_))
       refine cw_seq ?_
       refine cw_region ?_
       refine wl_m ?_
       refine wl_val rfl (ex_min rfl rfl) ?_
       refine wl_a ?_
       refine wl_nil (nrm_then ?_)
       refine cw_ret (body_ret1 rfl rfl ?_)
       refine ⟨congrArg (Value.int .i64) ?_, hE10⟩
       rw [ite_min]
       exact cap_two (esz7 (by omega)) hall
      ·skip
       refine cw_seq ?_
       refine cw_region ?_
       refine wl_val rfl (ex_eql rfl rfl) ?_
       refine wl_a ?_
       refine wl_nil (nrm_then ?_)
       refine cw_if rfl (fun hc37 => ?_) (fun hc37 => ?_)
       ·skip
        have h6 := hn.rep1 (by omega)
        have h62 := hn.rep2 (by omega)
        have h63 := hn.rep3 (by omega)
        have hmu := mul_bd h6 h62 hs0 hs1
        refine cw_seq ?_
        refine cw_region ?_
        refine wl_val rfl (ex_fieldAddr rfl Try.fld25_4) ?_
        refine wl_val rfl (ex_load1 rfl Try.agg3 (cell_nth hB11 rfl)) ?_
        refine wl_val rfl (ex_lss rfl rfl) ?_
        refine wl_nil (nrm_then ?_)
        refine cw_if rfl (fun hc41 => ?_) (fun hc41 => ?_)
        ·skip
         refine cw_region ?_
         refine wl_val rfl (ex_fieldAddr rfl Try.fld25_3) ?_
         refine wl_val rfl (ex_load1 rfl Try.agg3 (cell_nth hB11 rfl)) ?_
         refine wl_m ?_
         refine wl_val rfl (ex_mul_i64 rfl rfl (by omega) (by omega)) ?_
         refine wl_m ?_
         refine wl_val rfl (ex_add_i64 rfl rfl (by omega) (by omega)) ?_
         refine wl_val rfl (ex_add_i64 rfl rfl (by omega) (by omega)) ?_
         refine wl_a ?_
         refine wl_nil (nrm_block (nrm_then ?_))
         refine cw_seq ?_
         refine cw_region ?_
         refine wl_m ?_
         refine wl_val rfl (ex_min rfl rfl) ?_
         refine wl_a ?_
         refine wl_nil (nrm_then ?_)
         refine cw_ret (body_ret1 rfl rfl ?_)
         refine ⟨congrArg (Value.int .i64) ?_, hE10⟩
         rw [ite_min]
         rw [esz6a (by omega) h6 (by omega), hall]; exact cap_rep1 h6 (Int.natCast_nonneg _)
        ·skip
         have hmv := mul_bd (show 0 ≤ t.max - t.min by omega) (show t.max - t.min ≤ 1000 by omega) (show 0 ≤ s + 1 by omega) (show s + 1 ≤ 10002 by omega)
         refine cw_region ?_
         refine wl_val rfl (ex_fieldAddr rfl Try.fld25_3) ?_
         refine wl_val rfl (ex_load1 rfl Try.agg3 (cell_nth hB11 rfl)) ?_
         refine wl_m ?_
         refine wl_val rfl (ex_mul_i64 rfl rfl (by omega) (by omega)) ?_
         refine wl_val rfl (ex_fieldAddr rfl Try.fld25_4) ?_
         refine wl_val rfl (ex_load1 rfl Try.agg3 (cell_nth hB11 rfl)) ?_
         refine wl_val rfl (ex_fieldAddr rfl Try.fld25_3) ?_
         refine wl_val rfl (ex_load1 rfl Try.agg3 (cell_nth hB11 rfl)) ?_
         refine wl_val rfl (ex_sub_i64 rfl rfl (by omega) (by omega)) ?_
         refine wl_m ?_
         refine wl_val rfl (ex_add_i64 rfl rfl (by omega) (by omega)) ?_
         refine wl_val rfl (ex_mul_i64 rfl rfl (by omega) (by omega)) ?_
         refine wl_val rfl (ex_add_i64 rfl rfl (by omega) (by omega)) ?_
         refine wl_a ?_
         refine wl_nil (nrm_block (nrm_then ?_))
         refine cw_seq ?_
         refine cw_region ?_
         refine wl_m ?_
         refine wl_val rfl (ex_min rfl rfl) ?_
         refine wl_a ?_
         refine wl_nil (nrm_then ?_)
         refine cw_ret (body_ret1 rfl rfl ?_)
         refine ⟨congrArg (Value.int .i64) ?_, hE10⟩
         rw [ite_min]
         rw [esz6b (by omega) h6 (by omega), hall]; exact cap_rep2 h6 (by omega) (Int.natCast_nonneg _)
       ·skip
        refine cw_region ?_
        refine wl_a ?_
        refine wl_nil (nrm_block (nrm_then ?_))
        refine cw_seq ?_
        refine cw_region ?_
        refine wl_m ?_
        refine wl_val rfl (ex_min rfl rfl) ?_
        refine wl_a ?_
        refine wl_nil (nrm_then ?_)
        refine cw_ret (body_ret1 rfl rfl ?_)
        refine ⟨congrArg (Value.int .i64) ?_, hE10⟩
        rw [ite_min]
        rw [esz0 (by omega)]
   ·skip
    refine cw_region ?_
    refine wl_val rfl (ex_eql rfl rfl) ?_
    refine wl_a ?_
    refine wl_nil (nrm_then ?_)
    refine cw_if rfl (fun hc21 => ?_) (fun hc21 => ?_)
    ·skip
     refine cw_skip (nrm_block (nrm_then ?_))
     refine cw_seq ?_
     refine cw_region ?_
     refine wl_m ?_
     refine wl_val rfl (ex_min rfl rfl) ?_
     refine wl_a ?_
     refine wl_nil (nrm_then ?_)
     refine cw_ret (body_ret1 rfl rfl ?_)
     refine ⟨congrArg (Value.int .i64) ?_, hE10⟩
     rw [ite_min]
     first | (rw [esz1 (by omega), hall]; have hk0 : t.kids = [] := hg.node.leaf (by unfold Leafy; omega); rw [hk0]; rfl) | (rw [esz4 (by omega), hall]; omega)
    ·skip
     refine cw_seq ?_
     refine cw_region ?_
     refine wl_val rfl (ex_eql rfl rfl) ?_
     refine wl_a ?_
     refine wl_nil (nrm_then ?_)
     refine cw_if rfl (fun hc24 => ?_) (fun hc24 => ?_)
     ·skip
      have h52 := hn.two (by omega)
      refine cw_region ?_
      refine wl_m ?_
      refine wl_val rfl (ex_fieldAddr rfl Try.fld25_8) ?_
      refine wl_val rfl (ex_load1 rfl Try.agg23 (cell_nth hB11 rfl)) ?_
      refine wl_val rfl (ex_len_slice rfl Try.underlying23 rfl) ?_
      refine wl_val rfl (ex_sub_i64 rfl rfl (by omega) (by omega)) ?_
      refine wl_val rfl (ex_mul_i64 rfl rfl (by omega) (by omega)) ?_
      refine wl_val rfl (ex_add_i64 rfl rfl (by omega) (by omega)) ?_
      refine wl_a ?_
      refine wl_nil (nrm_block (nrm_then ?_))
      refine cw_seq ?_
      refine cw_region ?_
      refine wl_m ?_
      refine wl_val rfl (ex_min rfl rfl) ?_
      refine wl_a ?_
      refine wl_nil (nrm_then ?_)
      refine cw_ret (body_ret1 rfl rfl ?_)
      refine ⟨congrArg (Value.int .i64) ?_, hE10⟩
      rw [ite_min]
      rw [esz5 (by omega) (by omega), hall]; omega
     ·skip
      refine cw_seq ?_
      refine cw_region ?_
      refine wl_val rfl (ex_eql rfl rfl) ?_
      refine wl_a ?_
      refine wl_nil (nrm_then ?_)
      refine cw_if rfl (fun hc33 => ?_) (fun hc33 => ?_)
      ·skip
       refine cw_region ?_
       refine wl_m ?_
       refine wl_val rfl (ex_add_i64 rfl rfl (by omega) (by omega)) ?_
       refine wl_a ?_
       refine wl_nil (nrm_block (nrm_then ?_))
       refine cw_seq ?_
       refine cw_region ?_
       refine wl_m ?_
       refine wl_val rfl (ex_min rfl rfl) ?_
       refine wl_a ?_
       refine wl_nil (nrm_then ?_)
       refine cw_ret (body_ret1 rfl rfl ?_)
       refine ⟨congrArg (Value.int .i64) ?_, hE10⟩
       rw [ite_min]
       exact cap_two (esz7 (by omega)) hall
      ·skip
       refine cw_seq ?_
       refine cw_region ?_
       refine wl_val rfl (ex_eql rfl rfl) ?_
       refine wl_a ?_
       refine wl_nil (nrm_then ?_)
       refine cw_if rfl (fun hc37 => ?_) (fun hc37 => ?_)
       ·skip
        have h6 := hn.rep1 (by omega)
        have h62 := hn.rep2 (by omega)
        have h63 := hn.rep3 (by omega)
        have hmu := mul_bd h6 h62 hs0 hs1
        refine cw_seq ?_
        refine cw_region ?_
        refine wl_val rfl (ex_fieldAddr rfl Try.fld25_4) ?_
        refine wl_val rfl (ex_load1 rfl Try.agg3 (cell_nth hB11 rfl)) ?_
        refine wl_val rfl (ex_lss rfl rfl) ?_
        refine wl_nil (nrm_then ?_)
        refine cw_if rfl (fun hc41 => ?_) (fun hc41 => ?_)
        ·skip
         refine cw_region ?_
         refine wl_val rfl (ex_fieldAddr rfl Try.fld25_3) ?_
         refine wl_val rfl (ex_load1 rfl Try.agg3 (cell_nth hB11 rfl)) ?_
         refine wl_m ?_
         refine wl_val rfl (ex_mul_i64 rfl rfl (by omega) (by omega)) ?_
         refine wl_m ?_
         refine wl_val rfl (ex_add_i64 rfl rfl (by omega) (by omega)) ?_
         refine wl_val rfl (ex_add_i64 rfl rfl (by omega) (by omega)) ?_
         refine wl_a ?_
         refine wl_nil (nrm_block (nrm_then ?_))
         refine cw_seq ?_
         refine cw_region ?_
         refine wl_m ?_
         refine wl_val rfl (ex_min rfl rfl) ?_
         refine wl_a ?_
         refine wl_nil (nrm_then ?_)
         refine cw_ret (body_ret1 rfl rfl ?_)
         refine ⟨congrArg (Value.int .i64) ?_, hE10⟩
         rw [ite_min]
         rw [esz6a (by omega) h6 (by omega), hall]; exact cap_rep1 h6 (Int.natCast_nonneg _)
        ·skip
         have hmv := mul_bd (show 0 ≤ t.max - t.min by omega) (show t.max - t.min ≤ 1000 by omega) (show 0 ≤ s + 1 by omega) (show s + 1 ≤ 10002 by omega)
         refine cw_region ?_
         refine wl_val rfl (ex_fieldAddr rfl Try.fld25_3) ?_
         refine wl_val rfl (ex_load1 rfl Try.agg3 (cell_nth hB11 rfl)) ?_
         refine wl_m ?_
         refine wl_val rfl (ex_mul_i64 rfl rfl (by omega) (by omega)) ?_
         refine wl_val rfl (ex_fieldAddr rfl Try.fld25_4) ?_
         refine wl_val rfl (ex_load1 rfl Try.agg3 (cell_nth hB11 rfl)) ?_
         refine wl_val rfl (ex_fieldAddr rfl Try.fld25_3) ?_
         refine wl_val rfl (ex_load1 rfl Try.agg3 (cell_nth hB11 rfl)) ?_
         refine wl_val rfl (ex_sub_i64 rfl rfl (by omega) (by omega)) ?_
         refine wl_m ?_
         refine wl_val rfl (ex_add_i64 rfl rfl (by omega) (by omega)) ?_
         refine wl_val rfl (ex_mul_i64 rfl rfl (by omega) (by omega)) ?_
         refine wl_val rfl (ex_add_i64 rfl rfl (by omega) (by omega)) ?_
         refine wl_a ?_
         refine wl_nil (nrm_block (nrm_then ?_))
         refine cw_seq ?_
         refine cw_region ?_
         refine wl_m ?_
         refine wl_val rfl (ex_min rfl rfl) ?_
         refine wl_a ?_
         refine wl_nil (nrm_then ?_)
         refine cw_ret (body_ret1 rfl rfl ?_)
         refine ⟨congrArg (Value.int .i64) ?_, hE10⟩
         rw [ite_min]
         rw [esz6b (by omega) h6 (by omega), hall]; exact cap_rep2 h6 (by omega) (Int.natCast_nonneg _)
       ·skip
        refine cw_region ?_
        refine wl_a ?_
        refine wl_nil (nrm_block (nrm_then ?_))
        refine cw_seq ?_
        refine cw_region ?_
        refine wl_m ?_
        refine wl_val rfl (ex_min rfl rfl) ?_
        refine wl_a ?_
        refine wl_nil (nrm_then ?_)
        refine cw_ret (body_ret1 rfl rfl ?_)
        refine ⟨congrArg (Value.int .i64) ?_, hE10⟩
        rw [ite_min]
        rw [esz0 (by omega)]


theorem cap_two' {e k : Int} (he : e = k + 2) : min (min k 10001 + 2) 10001 = min e 10001 := by subst he; omega
theorem cap_rep1' {m k : Int} (hm : 0 ≤ m) (hk : 0 ≤ k) : min (m * min k 10001 + (min k 10001 + 2)) 10001 = min (m * k + k + 2) 10001 := by rw [← cap_rep1 hm hk, Int.add_assoc]

set_option maxHeartbeats 4000000 in
theorem rsize_step {n : Nat} (ih : ∀ {X : List Nat} {w : World} {vs : List Value} {t : Rx} (hx : RRx n X w vs t) (hg : Good t), Calls Try.prog 22 #[.agg vs.toArray] w (Ret fun v w' => v = .int .i64 (min (t.esz : Int) 10001) ∧ Evo [] w w')) {X : List Nat} {w : World} {vs : List Value} {t : Rx} (hx : RRx (n + 1) X w vs t) (hg : Good t) : Calls Try.prog 22 #[.agg vs.toArray] w (Ret fun v w' => v = .int .i64 (min (t.esz : Int) 10001) ∧ Evo [] w w') := by
  have hx0 := hx
  obtain ⟨m, ra, rc, ka, kc, hm, rfl, hrg, hk, bl1, bl2, bl3⟩ := hx.get
  obtain rfl : m = n := by omega
  obtain ⟨_, _, hke, hkc, e1⟩ := hk
  cases hke
  have hn := (nodeP_iff t).1 hg.node
  refine calls_of_cw (N := 77) Try.func22 rfl rfl rfl ?_
  refine cw_seq ?_
  refine cw_region ?_
  refine wl_boxA rfl rfl fun b1 w2 hB3 hs4 hw5 => ?_
  have hG6 := Ge.new (Evo.refl [] w) hs4
  have hE7 := (Evo.refl [] w).then hw5
  refine wl_a ?_
  refine wl_nil (nrm_then ?_)
  refine cw_seq ?_
  refine cw_region ?_
  refine wl_a ?_
  refine wl_nil (nrm_then ?_)
  refine cw_seq ?_
  refine cw_seq ?_
  refine cw_region ?_
  refine wl_val rfl (ex_fieldAddr rfl Try.fld25_0) ?_
  refine wl_val rfl (ex_load1 rfl Try.agg3 (cell_nth hB3 rfl)) ?_
  refine wl_nil (nrm_then ?_)
  refine cw_block ?_
  refine cw_seq ?_
  refine cw_region ?_
  refine wl_val rfl (ex_eql rfl rfl) ?_
  refine wl_a ?_
  refine wl_nil (nrm_then ?_)
  refine cw_if rfl (fun hc8 => ?_) (fun hc8 => ?_)
  ·skip
   refine cw_skip (nrm_block (nrm_then ?_))
   refine cw_seq ?_
   refine cw_region ?_
   refine wl_m ?_
   refine wl_val rfl (ex_min rfl rfl) ?_
   refine wl_a ?_
   refine wl_nil (nrm_then ?_)
   refine cw_ret (body_ret1 rfl rfl ?_)
   refine ⟨congrArg (Value.int .i64) ?_, hE7⟩
   rw [ite_min]
   rw [esz1 (by omega)]
  ·skip
   refine cw_seq ?_
   refine cw_cut (α := Bool) (fun z => [(10, .bool z)]) [(1, _), (2, _), (3, _), (7, _)] (fun z wr => Evo [] w2 wr ∧ (z = true ↔ (t.kind = 4 ∨ t.kind = 5))) ⟨rfl, rfl, rfl, rfl, trivial⟩ ?_ ?_
   ·skip
    refine cw_seq ?_
    refine cw_region ?_
    refine wl_val rfl (ex_eql rfl rfl) ?_
    refine wl_a ?_
    refine wl_nil (nrm_then ?_)
    refine cw_if rfl (fun hc10 => ?_) (fun hc10 => ?_)
    ·skip
     refine cw_skip (nrm_same ?_)
     refine ⟨(decide (t.kind = 4)), ⟨rfl, trivial⟩, ⟨rfl, rfl, rfl, rfl, trivial⟩, (Evo.refl [] w2), ?_⟩
     simp only [decide_eq_true_eq]; omega
    ·skip
     refine cw_region ?_
     refine wl_val rfl (ex_eql rfl rfl) ?_
     refine wl_a ?_
     refine wl_nil (nrm_same ?_)
     refine ⟨(decide (t.kind = 5)), ⟨rfl, trivial⟩, ⟨rfl, rfl, rfl, rfl, trivial⟩, (Evo.refl [] w2), ?_⟩
     simp only [decide_eq_true_eq]; omega
   ·skip
    rintro z w8 ⟨hV9, hz⟩
    refine nrm_then ?_
    show CW _ _ _ _ [(10, _), (1, _), (2, _), (3, _), (7, _)] _
    have hE10 := hE7.then hV9
    have hB11 := hV9.blk0 hB3
    refine cw_ifb rfl (fun hc10 => ?_) (fun hc10 => ?_)
    ·skip
     subst hc10
     refine cw_seq ?_
     refine cw_seq ?_
     refine cw_region ?_
     refine wl_a ?_
     refine wl_nil (nrm_then ?_)
     refine cw_block ?_
     refine cw_loop (α := Nat × Int) ((0, 0)) (fun x => [(3, .int .i64 x.2), (4, .int .i64 (x.1 : Nat))]) [(1, _), (2, _)] (fun x wr => Evo [] w8 wr ∧ (x.1 ≤ t.kids.length ∧ x.2 = min (eszs (t.kids.take x.1) : Int) 10001)) (fun x => t.kids.length - x.1) ⟨rfl, rfl, trivial⟩ ⟨rfl, rfl, trivial⟩ ⟨Evo.refl _ _, ⟨Nat.zero_le _, by simp only [List.take_zero]; rfl⟩⟩ ?_
     rintro ⟨j, s⟩ wr12 ⟨hV13, ⟨hj, hs⟩⟩
     show CW _ _ _ _ [(3, .int .i64 s), (4, .int .i64 (j : Nat)), (1, _), (2, _)] _
     try dsimp only at hj
     try dsimp only at hs
     have hE14 := hE10.then hV13
     have hB15 := hV13.blk0 hB11
     refine cw_seq ?_
     refine cw_seq ?_
     refine cw_region ?_
     refine wl_m ?_
     refine wl_val rfl (ex_fieldAddr rfl Try.fld25_8) ?_
     refine wl_val rfl (ex_load1 rfl Try.agg23 (cell_nth hB15 rfl)) ?_
     refine wl_val rfl (ex_len_slice rfl Try.underlying23 rfl) ?_
     refine wl_val rfl (ex_lss rfl rfl) ?_
     refine wl_nil (nrm_then ?_)
     refine cw_if rfl (fun hc17 => ?_) (fun hc17 => ?_)
     ·skip
      have hj' : j < t.kids.length := by omega
      obtain ⟨b1, o1, vs1, ha1, hb1, hvl1, hc1, hrk⟩ := e1 j hj'
      obtain ⟨m1, ra1, rc1, ka1, kc1, rfl, rfl, -⟩ := id hrk.get
      refine cw_skip (nrm_then ?_)
      refine cw_seq ?_
      refine cw_block ?_
      refine cw_region ?_
      refine wl_m ?_
      refine wl_val rfl (ex_fieldAddr rfl Try.fld25_8) ?_
      refine wl_val rfl (ex_load1 rfl Try.agg23 (cell_nth hB15 rfl)) ?_
      refine wl_m ?_
      refine wl_val rfl (ex_indexAddr (n := j) (by rw [ha1]; rfl) rfl Try.elem23 (by omega)) ?_
      refine wl_val rfl (ex_loadA rfl Try.agg25 Try.size25 (vs := [_, _, _, _, _, _, _, _, _]) rfl (hc1.evo hE14 (by simp))) ?_
      refine wl_call1 (vs := [_]) Try.goes22 rfl (ih (RRx.pers _ _ _ _ _ _ (hE14.mono (fun b hb => by cases hb)) hrk) (hg.kid _ (List.getElem_mem hj'))) rfl ?_
      rintro _ w16 ⟨rfl, hw17⟩
      have hE18 := hE14.then hw17
      have hE19 := hV13.then hw17
      have hB20 := hw17.blk0 hB15
      refine wl_val rfl (ex_add_i64 rfl rfl (by omega) (by omega)) ?_
      refine wl_val rfl (ex_min rfl rfl) ?_
      refine wl_a ?_
      refine wl_nil (nrm_block (nrm_then ?_))
      refine cw_region ?_
      refine wl_m ?_
      refine wl_val rfl (ex_add_i64 rfl rfl (by omega) (by omega)) ?_
      refine wl_a ?_
      refine wl_nil (nrm_same ?_)
      refine ⟨(j + 1, if 10001 < s + min (t.kids[j].esz : Int) 10001 then 10001 else s + min (t.kids[j].esz : Int) 10001), ?_, ⟨rfl, rfl, trivial⟩, ⟨rfl, rfl, trivial⟩, hE19, ?_⟩
      · (try dsimp only); omega
      ·skip
       try dsimp only
       exact ⟨by omega, by rw [eszs_take hj', ite_min]; exact step_cap hs rfl⟩
     ·skip
      have hall : s = min (eszs t.kids : Int) 10001 := by rw [hs, List.take_of_length_le (by omega)]
      refine cw_exit (ex_then (ex_then (ex_here (nrm_then ?_))))
      refine cw_seq ?_
      refine cw_region ?_
      refine wl_val rfl (ex_fieldAddr rfl Try.fld25_0) ?_
      refine wl_val rfl (ex_load1 rfl Try.agg3 (cell_nth hB15 rfl)) ?_
      refine wl_val rfl (ex_eql rfl rfl) ?_
      refine wl_nil (nrm_then ?_)
      refine cw_if rfl (fun hc31 => ?_) (fun hc31 => ?_)
      ·skip
       have h52 := hn.two (by omega)
       refine cw_region ?_
       refine wl_m ?_
       refine wl_val rfl (ex_fieldAddr rfl Try.fld25_8) ?_
       refine wl_val rfl (ex_load1 rfl Try.agg23 (cell_nth hB15 rfl)) ?_
       refine wl_val rfl (ex_len_slice rfl Try.underlying23 rfl) ?_
       refine wl_val rfl (ex_sub_i64 rfl rfl (by omega) (by omega)) ?_
       refine wl_val rfl (ex_mul_i64 rfl rfl (by omega) (by omega)) ?_
       refine wl_val rfl (ex_add_i64 rfl rfl (by omega) (by omega)) ?_
       refine wl_a ?_
       refine wl_nil (nrm_block (nrm_then ?_))
       refine cw_seq ?_
       refine cw_region ?_
       refine wl_m ?_
       refine wl_val rfl (ex_min rfl rfl) ?_
       refine wl_a ?_
       refine wl_nil (nrm_then ?_)
       refine cw_ret (body_ret1 rfl rfl ?_)
       refine ⟨congrArg (Value.int .i64) ?_, hE14⟩
       rw [ite_min]
       have := hz.1 rfl
       rw [esz5 (by omega) (by omega), hall]; omega
      ·skip
       refine cw_skip (nrm_block (nrm_then ?_))
       refine cw_seq ?_
       refine cw_region ?_
       refine wl_m ?_
       refine wl_val rfl (ex_min rfl rfl) ?_
       refine wl_a ?_
       refine wl_nil (nrm_then ?_)
       refine cw_ret (body_ret1 rfl rfl ?_)
       refine ⟨congrArg (Value.int .i64) ?_, hE14⟩
       rw [ite_min]
       have := hz.1 rfl
       rw [esz4 (by omega), hall]; omega
    ·skip
     subst hc10
     refine cw_seq ?_
     refine cw_region ?_
     refine wl_val rfl (ex_eql rfl rfl) ?_
     refine wl_a ?_
     refine wl_nil (nrm_then ?_)
     refine cw_if rfl (fun hc39 => ?_) (fun hc39 => ?_)
     ·skip
      have hl1 : t.kids.length = 1 := by have h1 := hn.rep4; have h2 := hn.grp; omega
      have hj' : 0 < t.kids.length := by omega
      obtain ⟨b1, o1, vs1, ha1, hb1, hvl1, hc1, hrk⟩ := e1 0 hj'
      obtain ⟨m1, ra1, rc1, ka1, kc1, rfl, rfl, -⟩ := id hrk.get
      have he1 := eszs_one hl1
      refine cw_region ?_
      refine wl_val rfl (ex_fieldAddr rfl Try.fld25_8) ?_
      refine wl_val rfl (ex_load1 rfl Try.agg23 (cell_nth hB11 rfl)) ?_
      refine wl_val rfl (ex_indexAddrZ (n := 0) (by rw [ha1]; rfl) rfl rfl Try.elem23 (by omega)) ?_
      refine wl_val rfl (ex_loadA rfl Try.agg25 Try.size25 (vs := [_, _, _, _, _, _, _, _, _]) rfl (hc1.evo hE10 (by simp))) ?_
      refine wl_call1 (vs := [_]) Try.goes22 rfl (ih (RRx.pers _ _ _ _ _ _ (hE10.mono (fun b hb => by cases hb)) hrk) (hg.kid _ (List.getElem_mem hj'))) rfl ?_
      rintro _ w21 ⟨rfl, hw22⟩
      have hE23 := hE10.then hw22
      have hB24 := hw22.blk0 hB11
      refine wl_val rfl (ex_add_i64 rfl rfl (by omega) (by omega)) ?_
      refine wl_a ?_
      refine wl_nil (nrm_block (nrm_then ?_))
      refine cw_seq ?_
      refine cw_region ?_
      refine wl_m ?_
      refine wl_val rfl (ex_min rfl rfl) ?_
      refine wl_a ?_
      refine wl_nil (nrm_then ?_)
      refine cw_ret (body_ret1 rfl rfl ?_)
      refine ⟨congrArg (Value.int .i64) ?_, hE23⟩
      rw [ite_min]
      exact cap_two' (by rw [esz7 (by omega), ← he1])
     ·skip
      refine cw_seq ?_
      refine cw_region ?_
      refine wl_val rfl (ex_eql rfl rfl) ?_
      refine wl_a ?_
      refine wl_nil (nrm_then ?_)
      refine cw_if rfl (fun hc47 => ?_) (fun hc47 => ?_)
      ·skip
       have hl1 : t.kids.length = 1 := by have h1 := hn.rep4; have h2 := hn.grp; omega
       have hj' : 0 < t.kids.length := by omega
       obtain ⟨b1, o1, vs1, ha1, hb1, hvl1, hc1, hrk⟩ := e1 0 hj'
       obtain ⟨m1, ra1, rc1, ka1, kc1, rfl, rfl, -⟩ := id hrk.get
       have he1 := eszs_one hl1
       obtain ⟨s, hs⟩ : ∃ s, s = min (t.kids[0].esz : Int) 10001 := ⟨_, rfl⟩
       have hs0 : 0 ≤ s := by omega
       have hs1 : s ≤ 10001 := by omega
       have h6 := hn.rep1 (by omega)
       have h62 := hn.rep2 (by omega)
       have h63 := hn.rep3 (by omega)
       have hmu := mul_bd h6 h62 hs0 hs1
       rw [hs] at hmu
       refine cw_seq ?_
       refine cw_region ?_
       refine wl_val rfl (ex_fieldAddr rfl Try.fld25_8) ?_
       refine wl_val rfl (ex_load1 rfl Try.agg23 (cell_nth hB11 rfl)) ?_
       refine wl_val rfl (ex_indexAddrZ (n := 0) (by rw [ha1]; rfl) rfl rfl Try.elem23 (by omega)) ?_
       refine wl_val rfl (ex_loadA rfl Try.agg25 Try.size25 (vs := [_, _, _, _, _, _, _, _, _]) rfl (hc1.evo hE10 (by simp))) ?_
       refine wl_call1 (vs := [_]) Try.goes22 rfl (ih (RRx.pers _ _ _ _ _ _ (hE10.mono (fun b hb => by cases hb)) hrk) (hg.kid _ (List.getElem_mem hj'))) rfl ?_
       rintro _ w25 ⟨rfl, hw26⟩
       have hE27 := hE10.then hw26
       have hB28 := hw26.blk0 hB11
       refine wl_a ?_
       refine wl_nil (nrm_then ?_)
       refine cw_seq ?_
       refine cw_region ?_
       refine wl_val rfl (ex_fieldAddr rfl Try.fld25_3) ?_
       refine wl_val rfl (ex_load1 rfl Try.agg3 (cell_nth hB28 rfl)) ?_
       refine wl_m ?_
       refine wl_val rfl (ex_mul_i64 rfl rfl (by omega) (by omega)) ?_
       refine wl_a ?_
       refine wl_nil (nrm_then ?_)
       refine cw_seq ?_
       refine cw_region ?_
       refine wl_val rfl (ex_fieldAddr rfl Try.fld25_4) ?_
       refine wl_val rfl (ex_load1 rfl Try.agg3 (cell_nth hB28 rfl)) ?_
       refine wl_val rfl (ex_eql rfl rfl) ?_
       refine wl_nil (nrm_then ?_)
       refine cw_if rfl (fun hc60 => ?_) (fun hc60 => ?_)
       ·skip
        refine cw_region ?_
        refine wl_m ?_
        refine wl_m ?_
        refine wl_val rfl (ex_add_i64 rfl rfl (by omega) (by omega)) ?_
        refine wl_val rfl (ex_add_i64 rfl rfl (by omega) (by omega)) ?_
        refine wl_a ?_
        refine wl_nil (nrm_block (nrm_then ?_))
        refine cw_seq ?_
        refine cw_region ?_
        refine wl_m ?_
        refine wl_val rfl (ex_min rfl rfl) ?_
        refine wl_a ?_
        refine wl_nil (nrm_then ?_)
        refine cw_ret (body_ret1 rfl rfl ?_)
        refine ⟨congrArg (Value.int .i64) ?_, hE27⟩
        rw [ite_min]
        rw [esz6a (by omega) h6 (by omega), he1]; exact cap_rep1' h6 (Int.natCast_nonneg _)
       ·skip
        have hmv := mul_bd (show 0 ≤ t.max - t.min by omega) (show t.max - t.min ≤ 1000 by omega) (show 0 ≤ s + 1 by omega) (show s + 1 ≤ 10002 by omega)
        rw [hs] at hmv
        refine cw_region ?_
        refine wl_m ?_
        refine wl_val rfl (ex_fieldAddr rfl Try.fld25_4) ?_
        refine wl_val rfl (ex_load1 rfl Try.agg3 (cell_nth hB28 rfl)) ?_
        refine wl_val rfl (ex_fieldAddr rfl Try.fld25_3) ?_
        refine wl_val rfl (ex_load1 rfl Try.agg3 (cell_nth hB28 rfl)) ?_
        refine wl_val rfl (ex_sub_i64 rfl rfl (by omega) (by omega)) ?_
        refine wl_m ?_
        refine wl_val rfl (ex_add_i64 rfl rfl (by omega) (by omega)) ?_
        refine wl_val rfl (ex_mul_i64 rfl rfl (by omega) (by omega)) ?_
        refine wl_val rfl (ex_add_i64 rfl rfl (by omega) (by omega)) ?_
        refine wl_a ?_
        refine wl_nil (nrm_block (nrm_then ?_))
        refine cw_seq ?_
        refine cw_region ?_
        refine wl_m ?_
        refine wl_val rfl (ex_min rfl rfl) ?_
        refine wl_a ?_
        refine wl_nil (nrm_then ?_)
        refine cw_ret (body_ret1 rfl rfl ?_)
        refine ⟨congrArg (Value.int .i64) ?_, hE27⟩
        rw [ite_min]
        rw [esz6b (by omega) h6 (by omega), he1]; exact cap_rep2 h6 (by omega) (Int.natCast_nonneg _)
      ·skip
       refine cw_region ?_
       refine wl_a ?_
       refine wl_nil (nrm_block (nrm_then ?_))
       refine cw_seq ?_
       refine cw_region ?_
       refine wl_m ?_
       refine wl_val rfl (ex_min rfl rfl) ?_
       refine wl_a ?_
       refine wl_nil (nrm_then ?_)
       refine cw_ret (body_ret1 rfl rfl ?_)
       refine ⟨congrArg (Value.int .i64) ?_, hE10⟩
       rw [ite_min]
       have hnz : ¬ (t.kind = 4 ∨ t.kind = 5) := fun h => by have := hz.2 h; cases this
       rw [esz0 (by omega)]

theorem size_ok : ∀ {n : Nat} {X : List Nat} {w : World} {vs : List Value} {t : Rx} (hx : RRx n X w vs t) (hg : Good t), Calls Try.prog 30 #[.agg vs.toArray] w (Ret fun v w' => v = .int .i64 (min (t.esz : Int) 10001) ∧ Evo [] w w')
  | 0, X, w, vs, t, hx, hg => hx.elim
  | n + 1, X, w, vs, t, hx, hg => size_step (n := n) (fun hx hg => size_ok hx hg) hx hg

theorem rsize_ok : ∀ {n : Nat} {X : List Nat} {w : World} {vs : List Value} {t : Rx} (hx : RRx n X w vs t) (hg : Good t), Calls Try.prog 22 #[.agg vs.toArray] w (Ret fun v w' => v = .int .i64 (min (t.esz : Int) 10001) ∧ Evo [] w w')
  | 0, X, w, vs, t, hx, hg => hx.elim
  | n + 1, X, w, vs, t, hx, hg => rsize_step (n := n) (fun hx hg => rsize_ok hx hg) hx hg


/-- What Size answers. -/
def SizeIs (t : Rx) (r : Int) : Prop := (t.Ok → r = min ((t.esz : Int) + 1) 10001) ∧ (¬ t.Ok → r = 0)
theorem cap_one (e : Int) : min (min e 10001 + 1) 10001 = min (e + 1) 10001 := by omega

theorem Size_ok {n : Nat} {w : World} {vs : List Value} {t : Rx} (hx : RRx n [] w vs t) : Calls Try.prog 15 #[.agg vs.toArray] w (Ret fun v w' => ∃ r, v = .int .i64 r ∧ SizeIs t r ∧ Evo [] w w') := by
  have hx0 := hx
  obtain ⟨m, ra, rc, ka, kc, hm, rfl, hrg, hk, bl1, bl2, bl3⟩ := hx.get
  refine calls_of_cw (N := 10) Try.func15 rfl rfl rfl ?_
  refine cw_seq ?_
  refine cw_region ?_
  refine wl_boxA rfl rfl fun b1 w2 hB3 hs4 hw5 => ?_
  have hG6 := Ge.new (Evo.refl [] w) hs4
  have hE7 := (Evo.refl [] w).then hw5
  refine wl_a ?_
  refine wl_nil (nrm_then ?_)
  refine cw_seq ?_
  refine cw_seq ?_
  refine cw_region ?_
  refine wl_val rfl (ex_loadBlk rfl Try.agg25 Try.size25 hB3 rfl) ?_
  refine wl_call1 (vs := [_]) Try.goes29 rfl (valid_ok (RRx.pers _ _ _ _ _ _ hE7 hx0)) rfl ?_
  rintro _ w8 ⟨r, rfl, hr, hw9⟩
  have hE10 := hE7.then hw9
  have hB11 := hw9.blk0 hB3
  refine wl_val rfl (ex_notb rfl) ?_
  refine wl_nil (nrm_then ?_)
  refine cw_ifb rfl (fun hc5 => ?_) (fun hc5 => ?_)
  ·skip
   refine cw_seq ?_
   refine cw_region ?_
   refine wl_a ?_
   refine wl_nil (nrm_then ?_)
   refine cw_ret (ret_then (body_ret1 rfl rfl ?_))
   exact ⟨0, rfl, ⟨fun h => (by rw [hr.2 h] at hc5; cases hc5), fun _ => rfl⟩, hE10⟩
  ·skip
   have hok : t.Ok := hr.1 (by simpa using hc5)
   refine cw_skip (nrm_then ?_)
   refine cw_seq ?_
   refine cw_region ?_
   refine wl_val rfl (ex_loadBlk rfl Try.agg25 Try.size25 hB11 rfl) ?_
   refine wl_call1 (vs := [_]) Try.goes30 rfl (size_ok (RRx.pers _ _ _ _ _ _ hE10 hx0) hok.good) rfl ?_
   rintro _ w12 ⟨rfl, hw13⟩
   have hE14 := hE10.then hw13
   have hB15 := hw13.blk0 hB11
   refine wl_val rfl (ex_add_i64 rfl rfl (by omega) (by omega)) ?_
   refine wl_val rfl (ex_min rfl rfl) ?_
   refine wl_a ?_
   refine wl_nil (nrm_then ?_)
   refine cw_ret (body_ret1 rfl rfl ?_)
   exact ⟨_, rfl, ⟨fun _ => by rw [ite_min]; exact cap_one _, fun h => (h hok).elim⟩, hE14⟩

theorem rSize_ok {n : Nat} {w : World} {vs : List Value} {t : Rx} (hx : RRx n [] w vs t) : Calls Try.prog 11 #[.agg vs.toArray] w (Ret fun v w' => ∃ r, v = .int .i64 r ∧ SizeIs t r ∧ Evo [] w w') := by
  have hx0 := hx
  obtain ⟨m, ra, rc, ka, kc, hm, rfl, hrg, hk, bl1, bl2, bl3⟩ := hx.get
  refine calls_of_cw (N := 10) Try.func11 rfl rfl rfl ?_
  refine cw_seq ?_
  refine cw_region ?_
  refine wl_boxA rfl rfl fun b1 w2 hB3 hs4 hw5 => ?_
  have hG6 := Ge.new (Evo.refl [] w) hs4
  have hE7 := (Evo.refl [] w).then hw5
  refine wl_a ?_
  refine wl_nil (nrm_then ?_)
  refine cw_seq ?_
  refine cw_seq ?_
  refine cw_region ?_
  refine wl_val rfl (ex_loadBlk rfl Try.agg25 Try.size25 hB3 rfl) ?_
  refine wl_call1 (vs := [_]) Try.goes10 rfl (refValid_ok (RRx.pers _ _ _ _ _ _ hE7 hx0)) rfl ?_
  rintro _ w8 ⟨r, rfl, hr, hw9⟩
  have hE10 := hE7.then hw9
  have hB11 := hw9.blk0 hB3
  refine wl_val rfl (ex_notb rfl) ?_
  refine wl_nil (nrm_then ?_)
  refine cw_ifb rfl (fun hc5 => ?_) (fun hc5 => ?_)
  ·skip
   refine cw_seq ?_
   refine cw_region ?_
   refine wl_a ?_
   refine wl_nil (nrm_then ?_)
   refine cw_ret (ret_then (body_ret1 rfl rfl ?_))
   exact ⟨0, rfl, ⟨fun h => (by rw [hr.2 h] at hc5; cases hc5), fun _ => rfl⟩, hE10⟩
  ·skip
   have hok : t.Ok := hr.1 (by simpa using hc5)
   refine cw_skip (nrm_then ?_)
   refine cw_seq ?_
   refine cw_region ?_
   refine wl_val rfl (ex_loadBlk rfl Try.agg25 Try.size25 hB11 rfl) ?_
   refine wl_call1 (vs := [_]) Try.goes22 rfl (rsize_ok (RRx.pers _ _ _ _ _ _ hE10 hx0) hok.good) rfl ?_
   rintro _ w12 ⟨rfl, hw13⟩
   have hE14 := hE10.then hw13
   have hB15 := hw13.blk0 hB11
   refine wl_val rfl (ex_add_i64 rfl rfl (by omega) (by omega)) ?_
   refine wl_val rfl (ex_min rfl rfl) ?_
   refine wl_a ?_
   refine wl_nil (nrm_then ?_)
   refine cw_ret (body_ret1 rfl rfl ?_)
   exact ⟨_, rfl, ⟨fun _ => by rw [ite_min]; exact cap_one _, fun h => (h hok).elim⟩, hE14⟩

end Go.Proofs.Ytgboffefbpligaa
