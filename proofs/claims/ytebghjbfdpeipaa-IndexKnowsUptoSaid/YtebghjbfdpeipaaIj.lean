/- The walks of the reference's rising and merge. -/
import Derived.Test.YtebghjbfdpeipaaIi
namespace Go.Proofs.Ytebghjbfdpeipaa
open Go.Proofs
open Go.W
attribute [local irreducible] Decidable.decide
set_option linter.unusedSimpArgs false
set_option linter.unusedVariables false
theorem Try.goes20 : Goes Try.prog 20 := ⟨_, Try.func20, by kernel_rfl, by kernel_rfl⟩
theorem Try.goes21 : Goes Try.prog 21 := ⟨_, Try.func21, by kernel_rfl, by kernel_rfl⟩
theorem Try.goes40 : Goes Try.prog 40 := ⟨_, Try.func40, by kernel_rfl, by kernel_rfl⟩
theorem Try.goes8 : Goes Try.prog 8 := ⟨_, Try.func8, by kernel_rfl, by kernel_rfl⟩
theorem Try.slice22 : sliceB Try.prog 22 = some (3, 1) := by kernel_rfl


instance (l : List Int) : Decidable (SR l) := inferInstanceAs (Decidable (l.Pairwise (· < ·)))

theorem isRising_ok {w : World} {v : Value} {l : List Int} (h : RSl 1 RZ [] w v l) (hl : l.length ≤ 1000000000) :
    Calls Try.prog 39 #[v] w (Ret fun v w' => v = .bool (decide (SR l)) ∧ Evo [] w w') := by
  have h0 := h
  obtain ⟨a, c, rfl, hc, -⟩ := h
  refine calls_of_cw (N := 20) Try.func39 rfl rfl rfl ?_
  refine cw_seq ?_
  refine cw_region ?_
  refine wl_val rfl (ex_assign rfl) ?_
  refine wl_nil (nrm_then ?_)
  refine cw_seq ?_
  refine cw_seq ?_
  refine cw_region ?_
  refine wl_val rfl (ex_assign rfl) ?_
  refine wl_nil (nrm_then ?_)
  refine cw_block ?_
  refine cw_loop (α := Nat) (1) (fun k => [(3, .int .i64 (k : Nat))]) [(0, _)] (fun k wr => Evo [] w wr ∧ (1 ≤ k ∧ (k ≤ 1 ∨ k ≤ l.length) ∧ SR (l.take k))) (fun k => l.length - k) ⟨rfl, trivial⟩ ⟨rfl, trivial⟩ ⟨Evo.refl _ _, ⟨Nat.le_refl _, .inl (Nat.le_refl _), sr_short (Nat.le_refl _)⟩⟩ ?_
  rintro k wr1 ⟨hV2, ⟨hk1, hk, hpre⟩⟩
  show CW _ _ _ _ [(3, _), (0, _)] _
  have hE3 := (Evo.refl [] w).then hV2
  refine cw_seq ?_
  refine cw_seq ?_
  refine cw_region ?_
  refine wl_val rfl (ex_move rfl) ?_
  refine wl_val rfl (ex_move rfl) ?_
  refine wl_val rfl (ex_len_slice rfl Try.underlying22 rfl) ?_
  refine wl_val rfl (ex_lss rfl rfl) ?_
  refine wl_nil (nrm_then ?_)
  refine cw_if rfl (fun hc7 => ?_) (fun hc7 => ?_)
  · skip
    have hk' : k < l.length := by omega
    obtain ⟨b1, o1, ha1, hc1⟩ := rz_at h0 hk'
    obtain ⟨b2, o2, ha2, hc2⟩ := rz_at h0 (k := k - 1) (by omega)
    refine cw_skip (nrm_then ?_)
    refine cw_seq ?_
    refine cw_block ?_
    refine cw_seq ?_
    refine cw_quiet (by kernel_rfl) (by kernel_rfl) ?_
    refine ql_val rfl (fun _ hq5 => ex_move rfl) ?_
    refine ql_val rfl (fun _ hq5 => ex_move rfl) ?_
    refine ql_val rfl (fun _ hq5 => ex_indexAddr (n := k) (by rw [ha1]; rfl) rfl Try.elem22 (by omega)) ?_
    refine ql_val rfl (fun _ hq5 => ex_load1 rfl Try.agg3 (((hE3.then hq5)).cell hc1 (fun h => by cases h))) ?_
    refine ql_val rfl (fun _ hq5 => ex_move rfl) ?_
    refine ql_val rfl (fun _ hq5 => ex_move rfl) ?_
    refine ql_val rfl (fun _ hq5 => ex_sub_i64 rfl rfl (by omega) (by omega)) ?_
    refine ql_val rfl (fun _ hq5 => ex_indexAddrZ (n := k - 1) (by rw [ha2]; rfl) rfl (by omega) Try.elem22 (by omega)) ?_
    refine ql_val rfl (fun _ hq5 => ex_load1 rfl Try.agg3 (((hE3.then hq5)).cell hc2 (fun h => by cases h))) ?_
    refine ql_val rfl (fun _ hq5 => ex_leq rfl rfl) ?_
    refine ql_nil (fun wq4 hq5 => nrm_then ?_)
    have hE6 := hE3.then hq5
    have hE7 := hV2.then hq5
    refine cw_if rfl (fun hc19 => ?_) (fun hc19 => ?_)
    · skip
      refine cw_seq ?_
      refine cw_region ?_
      refine wl_val rfl (ex_assign rfl) ?_
      refine wl_nil (nrm_then ?_)
      refine cw_ret (ret_block (ret_then (ret_then (ret_block (ret_then (body_ret1 rfl rfl ?_))))))
      exact ⟨congrArg Value.bool (decide_eq_false (sr_not hk' (by omega) hc19)).symm, hE6⟩
    · skip
      refine cw_skip (nrm_block (nrm_then ?_))
      refine cw_region ?_
      refine wl_val rfl (ex_move rfl) ?_
      refine wl_val rfl (ex_add_i64 rfl rfl (by omega) (by omega)) ?_
      refine wl_val rfl (ex_assign rfl) ?_
      refine wl_nil (nrm_same ?_)
      refine ⟨k + 1, ?_, ⟨rfl, trivial⟩, ⟨rfl, trivial⟩, hE7, ?_⟩
      · omega
      · skip
        exact ⟨by omega, .inr (by omega), sr_step hk' (by omega) hpre (by omega)⟩
  · skip
    refine cw_exit (ex_then (ex_then (ex_here (nrm_then ?_))))
    refine cw_seq ?_
    refine cw_region ?_
    refine wl_val rfl (ex_assign rfl) ?_
    refine wl_nil (nrm_then ?_)
    refine cw_ret (body_ret1 rfl rfl ?_)
    exact ⟨congrArg Value.bool (decide_eq_true (by rw [List.take_of_length_le (by omega)] at hpre; exact hpre)).symm, hE3⟩


structure MG where
  aa : Option Addr
  ac : Nat
  al : List Int
  ba : Option Addr
  bc : Nat
  bl : List Int
  oa : Option Addr
  oc : Nat
  ol : List Int
  oob : Option Nat

set_option maxHeartbeats 2000000 in
theorem merge_ok {w : World} {va vb : Value} {la lb : List Int} {fa fab fb : Bool} (ha : RSl 1 RZ [] w va la) (hb : RSl 1 RZ [] w vb lb) (hla : la.length ≤ 100000000) (hlb : lb.length ≤ 100000000) :
    Calls Try.prog 20 #[va, vb, .bool fa, .bool fab, .bool fb] w (Ret fun v w' => Res w w' v (mg fa fab fb la lb)) := by
  have ha0 := ha
  have hb0 := hb
  obtain ⟨a1, c1, rfl, hc1, -⟩ := ha
  obtain ⟨a2, c2, rfl, hc2, -⟩ := hb
  refine calls_of_cw (N := 81) Try.func20 rfl rfl rfl ?_
  refine cw_seq ?_
  refine cw_region ?_
  refine wl_val rfl (ex_assign rfl) ?_
  refine wl_nil (nrm_then ?_)
  refine cw_seq ?_
  refine cw_region ?_
  refine wl_val rfl (ex_assign rfl) ?_
  refine wl_nil (nrm_then ?_)
  refine cw_seq ?_
  refine cw_block ?_
  refine cw_loop (α := MG) (⟨a1, c1, la, a2, c2, lb, none, 0, [], none⟩) (fun x => [(0, .slice x.aa x.al.length x.ac), (1, .slice x.ba x.bl.length x.bc), (11, .slice x.oa x.ol.length x.oc)]) [(2, _), (3, _), (4, _), (10, _)] (fun x wr => Evo [] w wr ∧ (RSl 1 RZ [] w (.slice x.aa x.al.length x.ac) x.al ∧ RSl 1 RZ [] w (.slice x.ba x.bl.length x.bc) x.bl ∧ OwnS wr 3 1 x.oa x.ol.length x.oc (x.ol.map iv) x.oob ∧ Ge w x.oob ∧ x.ol ++ mg fa fab fb x.al x.bl = mg fa fab fb la lb)) (fun x => x.al.length + x.bl.length) ⟨rfl, rfl, rfl, trivial⟩ ⟨rfl, rfl, rfl, rfl, trivial⟩ ⟨(Evo.refl [] w), ⟨ha0, hb0, OwnS.nil _ _ _, Ge.nil _, rfl⟩⟩ ?_
  rintro ⟨aa, ac, al, ba, bc, bl, oa, oc, ol, oob⟩ wr1 ⟨hV2, ⟨hA, hB, hO, hG, hM⟩⟩
  show CW _ _ _ _ [(0, .slice aa al.length ac), (1, .slice ba bl.length bc), (11, .slice oa ol.length oc), (2, _), (3, _), (4, _), (10, _)] _
  try dsimp only at hA
  try dsimp only at hB
  try dsimp only at hO
  try dsimp only at hG
  try dsimp only at hM
  have hbnd : ol.length ≤ 200000000 := by have h1 := congrArg List.length hM; rw [List.length_append] at h1; have h2 := mg_len (fa := fa) (fab := fab) (fb := fb) _ la lb (Nat.le_refl _); omega
  refine cw_seq ?_
  refine cw_seq ?_
  refine cw_region ?_
  refine wl_val rfl (ex_move rfl) ?_
  refine wl_val rfl (ex_len_slice rfl Try.underlying22 rfl) ?_
  refine wl_val rfl (ex_gtr rfl rfl) ?_
  refine wl_val rfl (ex_move rfl) ?_
  refine wl_split (t := 15) rfl (fun hs15 => ?_) (fun hs15 => ?_)
  · skip
    refine wl_no rfl rfl rfl rfl rfl rfl ?_
    refine wl_no rfl rfl rfl rfl rfl rfl ?_
    refine wl_no rfl rfl rfl rfl rfl rfl ?_
    refine wl_val rfl (ex_pick_t rfl rfl) ?_
    refine wl_nil (nrm_then ?_)
    refine cw_true rfl ?_
    refine cw_skip (nrm_then ?_)
    refine cw_block ?_
    refine cw_block ?_
    refine cw_seq ?_
    refine cw_quiet (by kernel_rfl) (by kernel_rfl) ?_
    refine ql_val rfl (fun _ hq4 => ex_move rfl) ?_
    refine ql_val rfl (fun _ hq4 => ex_len_slice rfl Try.underlying22 rfl) ?_
    refine ql_val rfl (fun _ hq4 => ex_eql rfl rfl) ?_
    refine ql_val rfl (fun _ hq4 => ex_move rfl) ?_
    refine ql_split (t := 35) rfl (fun hs35 => ?_) (fun hs35 => ?_)
    · skip
      have hx0 : 0 < al.length := by omega
      obtain ⟨b1, o1, ha1, hc1⟩ := rz_at hA hx0
      obtain ⟨x1, hx1⟩ : ∃ x1, al[0] = x1 := ⟨_, rfl⟩
      rw [hx1] at hc1
      refine ql_no rfl rfl rfl rfl rfl rfl ?_
      refine ql_no rfl rfl rfl rfl rfl rfl ?_
      refine ql_no rfl rfl rfl rfl rfl rfl ?_
      refine ql_no rfl rfl rfl rfl rfl rfl ?_
      refine ql_nou rfl rfl rfl rfl rfl ?_
      refine ql_nou rfl rfl rfl rfl rfl ?_
      refine ql_nou rfl rfl rfl rfl rfl ?_
      refine ql_nou rfl rfl rfl rfl rfl ?_
      refine ql_nou rfl rfl rfl rfl rfl ?_
      refine ql_nou rfl rfl rfl rfl rfl ?_
      refine ql_nou rfl rfl rfl rfl rfl ?_
      refine ql_no rfl rfl rfl rfl rfl rfl ?_
      refine ql_val rfl (fun _ hq4 => ex_pick_t rfl rfl) ?_
      refine ql_val rfl (fun _ hq4 => ex_assign rfl) ?_
      refine ql_nil (fun wq3 hq4 => nrm_then ?_)
      have hE5 := hV2.then hq4
      have hO6 := hO.evo0 hq4
      refine cw_true rfl ?_
      refine cw_seq ?_
      refine cw_seq ?_
      refine cw_region ?_
      refine wl_val rfl (ex_move rfl) ?_
      refine wl_nil (nrm_then ?_)
      refine cw_ifb rfl (fun hc49 => ?_) (fun hc49 => ?_)
      · skip
        refine cw_region ?_
        refine wl_val rfl (ex_move rfl) ?_
        refine wl_val rfl (ex_move rfl) ?_
        refine wl_val rfl (ex_indexAddr (n := 0) (by rw [ha1]; rfl) rfl Try.elem22 (by omega)) ?_
        refine wl_val rfl (ex_load1 rfl Try.agg3 ((hE5).cell hc1 (fun h => by cases h))) ?_
        refine wl_bslice (vs := [_]) rfl Try.slice22 rfl rfl rfl rfl fun b7 w8 hO9 hs10 hw11 => ?_
        have hA12 := Apart.new (Lt.own hO6) hs10
        have hG13 := Ge.new hE5 hs10
        have hE14 := hE5.then hw11
        have hO15 := hO6.evo0 hw11
        refine wl_append rfl rfl rfl rfl Try.app22_22 hO15 (Src.ofOwn hO9 ⟨by first | rfl | assumption, trivial⟩) (by omega) fun oa9 oc9 w18 oob9 hO8 hw21 hob22 => ?_
        have hA23 := hA12.symm.app (Lt.own hO9) hob22
        have hG24 := hG.app hE14 hob22
        have hE25 := hE14.step hw21 hG.mem
        have hO26 := hO9.evo hw21 hA12.symm.own
        have hx9 : (ol ++ [x1]).length = ol.length + 1 := by simp
        rw [← hx9]
        have hO9 : OwnS w18 3 1 oa9 (ol ++ [x1]).length oc9 ((ol ++ [x1]).map iv) oob9 := by rw [hx9, List.map_append]; exact hO8
        refine wl_val rfl (ex_assign rfl) ?_
        refine wl_nil (nrm_then ?_)
        refine cw_region ?_
        refine wl_val rfl (ex_move rfl) ?_
        refine wl_val rfl (ex_sliceFrom (l := 1) rfl rfl Try.underlying22 Try.size3 rfl (by omega) (rz_n hA).2) ?_
        rw [← List.length_drop]
        refine wl_val rfl (ex_assign rfl) ?_
        refine wl_nil (nrm_block (nrm_block (nrm_same ?_)))
        refine ⟨⟨(if ac = 1 then aa else aa.map (·.add (1 * 1))), ac - 1, al.drop 1, ba, bc, bl, oa9, oc9, ol ++ [x1], oob9⟩, ?_, ⟨rfl, rfl, rfl, trivial⟩, ⟨rfl, rfl, rfl, rfl, trivial⟩, hE25, ?_⟩
        · (try dsimp only); simp only [List.length_drop]; omega
        · skip
          try dsimp only
          have hm := mg_a (fa := fa) (fab := fab) (fb := fb) (a := al) (b := bl) hx0 (.inl (by omega))
          rw [hx1] at hm
          have hf9 : opt fa x1 = [x1] := by unfold opt; rw [if_pos hc49]
          rw [hf9] at hm
          have hM2 := hM
          rw [hm] at hM2
          rw [← List.append_assoc] at hM2
          exact ⟨rz_from hA (by omega), hB, hO9, hG24, hM2⟩
      · skip
        refine cw_skip (nrm_then ?_)
        refine cw_region ?_
        refine wl_val rfl (ex_move rfl) ?_
        refine wl_val rfl (ex_sliceFrom (l := 1) rfl rfl Try.underlying22 Try.size3 rfl (by omega) (rz_n hA).2) ?_
        rw [← List.length_drop]
        refine wl_val rfl (ex_assign rfl) ?_
        refine wl_nil (nrm_block (nrm_block (nrm_same ?_)))
        refine ⟨⟨(if ac = 1 then aa else aa.map (·.add (1 * 1))), ac - 1, al.drop 1, ba, bc, bl, oa, oc, ol, oob⟩, ?_, ⟨rfl, rfl, rfl, trivial⟩, ⟨rfl, rfl, rfl, rfl, trivial⟩, hE5, ?_⟩
        · (try dsimp only); simp only [List.length_drop]; omega
        · skip
          try dsimp only
          have hm := mg_a (fa := fa) (fab := fab) (fb := fb) (a := al) (b := bl) hx0 (.inl (by omega))
          rw [hx1] at hm
          have hf9 : opt fa x1 = [] := by unfold opt; rw [if_neg (by rw [hc49]; decide)]
          rw [hf9] at hm
          have hM2 := hM
          rw [hm] at hM2
          rw [List.nil_append] at hM2
          exact ⟨rz_from hA (by omega), hB, hO6, hG, hM2⟩
    · skip
      refine ql_go rfl rfl rfl rfl ?_
      refine ql_val rfl (fun _ hq4 => ex_move rfl) ?_
      refine ql_go rfl rfl rfl rfl ?_
      refine ql_val rfl (fun _ hq4 => ex_len_slice rfl Try.underlying22 rfl) ?_
      refine ql_go rfl rfl rfl rfl ?_
      refine ql_val rfl (fun _ hq4 => ex_gtr rfl rfl) ?_
      refine ql_go rfl rfl rfl rfl ?_
      refine ql_val rfl (fun _ hq4 => ex_move rfl) ?_
      refine ql_split (t := 39) rfl (fun hs39 => ?_) (fun hs39 => ?_)
      · skip
        have hx0 : 0 < al.length := by omega
        obtain ⟨b1, o1, ha1, hc1⟩ := rz_at hA hx0
        obtain ⟨x1, hx1⟩ : ∃ x1, al[0] = x1 := ⟨_, rfl⟩
        rw [hx1] at hc1
        have hy0 : 0 < bl.length := by omega
        obtain ⟨b2, o2, ha2, hc2⟩ := rz_at hB hy0
        obtain ⟨y1, hy1⟩ : ∃ y1, bl[0] = y1 := ⟨_, rfl⟩
        rw [hy1] at hc2
        refine ql_go rfl rfl rfl rfl ?_
        refine ql_val rfl (fun _ hq4 => ex_move rfl) ?_
        refine ql_go rfl rfl rfl rfl ?_
        refine ql_val rfl (fun _ hq4 => ex_indexAddr (n := 0) (by rw [ha1]; rfl) rfl Try.elem22 (by omega)) ?_
        refine ql_go rfl rfl rfl rfl ?_
        refine ql_val rfl (fun _ hq4 => ex_load1 rfl Try.agg3 (((hV2.then hq4)).cell hc1 (fun h => by cases h))) ?_
        refine ql_go rfl rfl rfl rfl ?_
        refine ql_val rfl (fun _ hq4 => ex_move rfl) ?_
        refine ql_go rfl rfl rfl rfl ?_
        refine ql_val rfl (fun _ hq4 => ex_indexAddr (n := 0) (by rw [ha2]; rfl) rfl Try.elem22 (by omega)) ?_
        refine ql_go rfl rfl rfl rfl ?_
        refine ql_val rfl (fun _ hq4 => ex_load1 rfl Try.agg3 (((hV2.then hq4)).cell hc2 (fun h => by cases h))) ?_
        refine ql_go rfl rfl rfl rfl ?_
        refine ql_val rfl (fun _ hq4 => ex_lss rfl rfl) ?_
        refine ql_go rfl rfl rfl rfl ?_
        refine ql_val rfl (fun _ hq4 => ex_pick_t rfl rfl) ?_
        refine ql_val rfl (fun _ hq4 => ex_pick_f rfl rfl) ?_
        refine ql_val rfl (fun _ hq4 => ex_assign rfl) ?_
        refine ql_nil (fun wq3 hq4 => nrm_then ?_)
        have hE27 := hV2.then hq4
        have hO28 := hO.evo0 hq4
        refine cw_if rfl (fun hc31 => ?_) (fun hc31 => ?_)
        · skip
          refine cw_seq ?_
          refine cw_seq ?_
          refine cw_region ?_
          refine wl_val rfl (ex_move rfl) ?_
          refine wl_nil (nrm_then ?_)
          refine cw_ifb rfl (fun hc49 => ?_) (fun hc49 => ?_)
          · skip
            refine cw_region ?_
            refine wl_val rfl (ex_move rfl) ?_
            refine wl_val rfl (ex_move rfl) ?_
            refine wl_val rfl (ex_indexAddr (n := 0) (by rw [ha1]; rfl) rfl Try.elem22 (by omega)) ?_
            refine wl_val rfl (ex_load1 rfl Try.agg3 ((hE27).cell hc1 (fun h => by cases h))) ?_
            refine wl_bslice (vs := [_]) rfl Try.slice22 rfl rfl rfl rfl fun b29 w30 hO31 hs32 hw33 => ?_
            have hA34 := Apart.new (Lt.own hO28) hs32
            have hG35 := Ge.new hE27 hs32
            have hE36 := hE27.then hw33
            have hO37 := hO28.evo0 hw33
            refine wl_append rfl rfl rfl rfl Try.app22_22 hO37 (Src.ofOwn hO31 ⟨by first | rfl | assumption, trivial⟩) (by omega) fun oa9 oc9 w40 oob9 hO8 hw43 hob44 => ?_
            have hA45 := hA34.symm.app (Lt.own hO31) hob44
            have hG46 := hG.app hE36 hob44
            have hE47 := hE36.step hw43 hG.mem
            have hO48 := hO31.evo hw43 hA34.symm.own
            have hx9 : (ol ++ [x1]).length = ol.length + 1 := by simp
            rw [← hx9]
            have hO9 : OwnS w40 3 1 oa9 (ol ++ [x1]).length oc9 ((ol ++ [x1]).map iv) oob9 := by rw [hx9, List.map_append]; exact hO8
            refine wl_val rfl (ex_assign rfl) ?_
            refine wl_nil (nrm_then ?_)
            refine cw_region ?_
            refine wl_val rfl (ex_move rfl) ?_
            refine wl_val rfl (ex_sliceFrom (l := 1) rfl rfl Try.underlying22 Try.size3 rfl (by omega) (rz_n hA).2) ?_
            rw [← List.length_drop]
            refine wl_val rfl (ex_assign rfl) ?_
            refine wl_nil (nrm_block (nrm_block (nrm_same ?_)))
            refine ⟨⟨(if ac = 1 then aa else aa.map (·.add (1 * 1))), ac - 1, al.drop 1, ba, bc, bl, oa9, oc9, ol ++ [x1], oob9⟩, ?_, ⟨rfl, rfl, rfl, trivial⟩, ⟨rfl, rfl, rfl, rfl, trivial⟩, hE47, ?_⟩
            · (try dsimp only); simp only [List.length_drop]; omega
            · skip
              try dsimp only
              have hm := mg_a (fa := fa) (fab := fab) (fb := fb) (a := al) (b := bl) hx0 (.inr ⟨hy0, by rw [hx1, hy1]; exact hc31⟩)
              rw [hx1] at hm
              have hf9 : opt fa x1 = [x1] := by unfold opt; rw [if_pos hc49]
              rw [hf9] at hm
              have hM2 := hM
              rw [hm] at hM2
              rw [← List.append_assoc] at hM2
              exact ⟨rz_from hA (by omega), hB, hO9, hG46, hM2⟩
          · skip
            refine cw_skip (nrm_then ?_)
            refine cw_region ?_
            refine wl_val rfl (ex_move rfl) ?_
            refine wl_val rfl (ex_sliceFrom (l := 1) rfl rfl Try.underlying22 Try.size3 rfl (by omega) (rz_n hA).2) ?_
            rw [← List.length_drop]
            refine wl_val rfl (ex_assign rfl) ?_
            refine wl_nil (nrm_block (nrm_block (nrm_same ?_)))
            refine ⟨⟨(if ac = 1 then aa else aa.map (·.add (1 * 1))), ac - 1, al.drop 1, ba, bc, bl, oa, oc, ol, oob⟩, ?_, ⟨rfl, rfl, rfl, trivial⟩, ⟨rfl, rfl, rfl, rfl, trivial⟩, hE27, ?_⟩
            · (try dsimp only); simp only [List.length_drop]; omega
            · skip
              try dsimp only
              have hm := mg_a (fa := fa) (fab := fab) (fb := fb) (a := al) (b := bl) hx0 (.inr ⟨hy0, by rw [hx1, hy1]; exact hc31⟩)
              rw [hx1] at hm
              have hf9 : opt fa x1 = [] := by unfold opt; rw [if_neg (by rw [hc49]; decide)]
              rw [hf9] at hm
              have hM2 := hM
              rw [hm] at hM2
              rw [List.nil_append] at hM2
              exact ⟨rz_from hA (by omega), hB, hO28, hG, hM2⟩
        · skip
          refine cw_seq ?_
          refine cw_quiet (by kernel_rfl) (by kernel_rfl) ?_
          refine ql_val rfl (fun _ hq50 => ex_move rfl) ?_
          refine ql_val rfl (fun _ hq50 => ex_len_slice rfl Try.underlying22 rfl) ?_
          refine ql_val rfl (fun _ hq50 => ex_eql rfl rfl) ?_
          refine ql_val rfl (fun _ hq50 => ex_move rfl) ?_
          refine ql_split (t := 62) rfl (fun hs62 => ?_) (fun hs62 => ?_)
          · skip
            exfalso; omega
          · skip
            refine ql_go rfl rfl rfl rfl ?_
            refine ql_val rfl (fun _ hq50 => ex_move rfl) ?_
            refine ql_go rfl rfl rfl rfl ?_
            refine ql_val rfl (fun _ hq50 => ex_indexAddr (n := 0) (by rw [ha2]; rfl) rfl Try.elem22 (by omega)) ?_
            refine ql_go rfl rfl rfl rfl ?_
            refine ql_val rfl (fun _ hq50 => ex_load1 rfl Try.agg3 (((hE27.then hq50)).cell hc2 (fun h => by cases h))) ?_
            refine ql_go rfl rfl rfl rfl ?_
            refine ql_val rfl (fun _ hq50 => ex_move rfl) ?_
            refine ql_go rfl rfl rfl rfl ?_
            refine ql_val rfl (fun _ hq50 => ex_indexAddr (n := 0) (by rw [ha1]; rfl) rfl Try.elem22 (by omega)) ?_
            refine ql_go rfl rfl rfl rfl ?_
            refine ql_val rfl (fun _ hq50 => ex_load1 rfl Try.agg3 (((hE27.then hq50)).cell hc1 (fun h => by cases h))) ?_
            refine ql_go rfl rfl rfl rfl ?_
            refine ql_val rfl (fun _ hq50 => ex_lss rfl rfl) ?_
            refine ql_val rfl (fun _ hq50 => ex_pick_f rfl rfl) ?_
            refine ql_val rfl (fun _ hq50 => ex_assign rfl) ?_
            refine ql_nil (fun wq49 hq50 => nrm_then ?_)
            have hE51 := hE27.then hq50
            have hO52 := hO28.evo0 hq50
            refine cw_if rfl (fun hc58 => ?_) (fun hc58 => ?_)
            · skip
              refine cw_seq ?_
              refine cw_seq ?_
              refine cw_region ?_
              refine wl_val rfl (ex_move rfl) ?_
              refine wl_nil (nrm_then ?_)
              refine cw_ifb rfl (fun hc71 => ?_) (fun hc71 => ?_)
              · skip
                refine cw_region ?_
                refine wl_val rfl (ex_move rfl) ?_
                refine wl_val rfl (ex_move rfl) ?_
                refine wl_val rfl (ex_indexAddr (n := 0) (by rw [ha2]; rfl) rfl Try.elem22 (by omega)) ?_
                refine wl_val rfl (ex_load1 rfl Try.agg3 ((hE51).cell hc2 (fun h => by cases h))) ?_
                refine wl_bslice (vs := [_]) rfl Try.slice22 rfl rfl rfl rfl fun b53 w54 hO55 hs56 hw57 => ?_
                have hA58 := Apart.new (Lt.own hO52) hs56
                have hG59 := Ge.new hE51 hs56
                have hE60 := hE51.then hw57
                have hO61 := hO52.evo0 hw57
                refine wl_append rfl rfl rfl rfl Try.app22_22 hO61 (Src.ofOwn hO55 ⟨by first | rfl | assumption, trivial⟩) (by omega) fun oa9 oc9 w64 oob9 hO8 hw67 hob68 => ?_
                have hA69 := hA58.symm.app (Lt.own hO55) hob68
                have hG70 := hG.app hE60 hob68
                have hE71 := hE60.step hw67 hG.mem
                have hO72 := hO55.evo hw67 hA58.symm.own
                have hx9 : (ol ++ [y1]).length = ol.length + 1 := by simp
                rw [← hx9]
                have hO9 : OwnS w64 3 1 oa9 (ol ++ [y1]).length oc9 ((ol ++ [y1]).map iv) oob9 := by rw [hx9, List.map_append]; exact hO8
                refine wl_val rfl (ex_assign rfl) ?_
                refine wl_nil (nrm_then ?_)
                refine cw_region ?_
                refine wl_val rfl (ex_move rfl) ?_
                refine wl_val rfl (ex_sliceFrom (l := 1) rfl rfl Try.underlying22 Try.size3 rfl (by omega) (rz_n hB).2) ?_
                rw [← List.length_drop]
                refine wl_val rfl (ex_assign rfl) ?_
                refine wl_nil (nrm_block (nrm_block (nrm_same ?_)))
                refine ⟨⟨aa, ac, al, (if bc = 1 then ba else ba.map (·.add (1 * 1))), bc - 1, bl.drop 1, oa9, oc9, ol ++ [y1], oob9⟩, ?_, ⟨rfl, rfl, rfl, trivial⟩, ⟨rfl, rfl, rfl, rfl, trivial⟩, hE71, ?_⟩
                · (try dsimp only); simp only [List.length_drop]; omega
                · skip
                  try dsimp only
                  have hm := mg_b (fa := fa) (fab := fab) (fb := fb) (a := al) (b := bl) hy0 (.inr ⟨hx0, by rw [hx1, hy1]; exact hc58⟩)
                  rw [hy1] at hm
                  have hf9 : opt fb y1 = [y1] := by unfold opt; rw [if_pos hc71]
                  rw [hf9] at hm
                  have hM2 := hM
                  rw [hm] at hM2
                  rw [← List.append_assoc] at hM2
                  exact ⟨hA, rz_from hB (by omega), hO9, hG70, hM2⟩
              · skip
                refine cw_skip (nrm_then ?_)
                refine cw_region ?_
                refine wl_val rfl (ex_move rfl) ?_
                refine wl_val rfl (ex_sliceFrom (l := 1) rfl rfl Try.underlying22 Try.size3 rfl (by omega) (rz_n hB).2) ?_
                rw [← List.length_drop]
                refine wl_val rfl (ex_assign rfl) ?_
                refine wl_nil (nrm_block (nrm_block (nrm_same ?_)))
                refine ⟨⟨aa, ac, al, (if bc = 1 then ba else ba.map (·.add (1 * 1))), bc - 1, bl.drop 1, oa, oc, ol, oob⟩, ?_, ⟨rfl, rfl, rfl, trivial⟩, ⟨rfl, rfl, rfl, rfl, trivial⟩, hE51, ?_⟩
                · (try dsimp only); simp only [List.length_drop]; omega
                · skip
                  try dsimp only
                  have hm := mg_b (fa := fa) (fab := fab) (fb := fb) (a := al) (b := bl) hy0 (.inr ⟨hx0, by rw [hx1, hy1]; exact hc58⟩)
                  rw [hy1] at hm
                  have hf9 : opt fb y1 = [] := by unfold opt; rw [if_neg (by rw [hc71]; decide)]
                  rw [hf9] at hm
                  have hM2 := hM
                  rw [hm] at hM2
                  rw [List.nil_append] at hM2
                  exact ⟨hA, rz_from hB (by omega), hO52, hG, hM2⟩
            · skip
              refine cw_seq ?_
              refine cw_seq ?_
              refine cw_region ?_
              refine wl_val rfl (ex_move rfl) ?_
              refine wl_nil (nrm_then ?_)
              refine cw_ifb rfl (fun hc20 => ?_) (fun hc20 => ?_)
              · skip
                refine cw_region ?_
                refine wl_val rfl (ex_move rfl) ?_
                refine wl_val rfl (ex_move rfl) ?_
                refine wl_val rfl (ex_indexAddr (n := 0) (by rw [ha1]; rfl) rfl Try.elem22 (by omega)) ?_
                refine wl_val rfl (ex_load1 rfl Try.agg3 ((hE51).cell hc1 (fun h => by cases h))) ?_
                refine wl_bslice (vs := [_]) rfl Try.slice22 rfl rfl rfl rfl fun b73 w74 hO75 hs76 hw77 => ?_
                have hA78 := Apart.new (Lt.own hO52) hs76
                have hG79 := Ge.new hE51 hs76
                have hE80 := hE51.then hw77
                have hO81 := hO52.evo0 hw77
                refine wl_append rfl rfl rfl rfl Try.app22_22 hO81 (Src.ofOwn hO75 ⟨by first | rfl | assumption, trivial⟩) (by omega) fun oa9 oc9 w84 oob9 hO8 hw87 hob88 => ?_
                have hA89 := hA78.symm.app (Lt.own hO75) hob88
                have hG90 := hG.app hE80 hob88
                have hE91 := hE80.step hw87 hG.mem
                have hO92 := hO75.evo hw87 hA78.symm.own
                have hx9 : (ol ++ [x1]).length = ol.length + 1 := by simp
                rw [← hx9]
                have hO9 : OwnS w84 3 1 oa9 (ol ++ [x1]).length oc9 ((ol ++ [x1]).map iv) oob9 := by rw [hx9, List.map_append]; exact hO8
                refine wl_val rfl (ex_assign rfl) ?_
                refine wl_nil (nrm_then ?_)
                refine cw_quiet (by kernel_rfl) (by kernel_rfl) ?_
                refine ql_val rfl (fun _ hq94 => ex_move rfl) ?_
                refine ql_val rfl (fun _ hq94 => ex_sliceFrom (l := 1) rfl rfl Try.underlying22 Try.size3 rfl (by omega) (rz_n hA).2) ?_
                rw [← List.length_drop]
                refine ql_val rfl (fun _ hq94 => ex_move rfl) ?_
                refine ql_val rfl (fun _ hq94 => ex_sliceFrom (l := 1) rfl rfl Try.underlying22 Try.size3 rfl (by omega) (rz_n hB).2) ?_
                rw [← List.length_drop]
                refine ql_val rfl (fun _ hq94 => ex_assign rfl) ?_
                refine ql_val rfl (fun _ hq94 => ex_assign rfl) ?_
                refine ql_nil (fun wq93 hq94 => nrm_block (nrm_block (nrm_same ?_)))
                have hE95 := hE91.then hq94
                have hO96 := hO9.evo0 hq94
                refine ⟨⟨(if ac = 1 then aa else aa.map (·.add (1 * 1))), ac - 1, al.drop 1, (if bc = 1 then ba else ba.map (·.add (1 * 1))), bc - 1, bl.drop 1, oa9, oc9, ol ++ [x1], oob9⟩, ?_, ⟨rfl, rfl, rfl, trivial⟩, ⟨rfl, rfl, rfl, rfl, trivial⟩, hE95, ?_⟩
                · (try dsimp only); simp only [List.length_drop]; omega
                · skip
                  try dsimp only
                  have hm := mg_ab (fa := fa) (fab := fab) (fb := fb) (a := al) (b := bl) hx0 hy0 (by rw [hx1, hy1]; exact hc31) (by rw [hx1, hy1]; exact hc58)
                  rw [hx1] at hm
                  have hf9 : opt fab x1 = [x1] := by unfold opt; rw [if_pos hc20]
                  rw [hf9] at hm
                  have hM2 := hM
                  rw [hm] at hM2
                  rw [← List.append_assoc] at hM2
                  exact ⟨rz_from hA (by omega), rz_from hB (by omega), hO96, hG90, hM2⟩
              · skip
                refine cw_skip (nrm_then ?_)
                refine cw_quiet (by kernel_rfl) (by kernel_rfl) ?_
                refine ql_val rfl (fun _ hq98 => ex_move rfl) ?_
                refine ql_val rfl (fun _ hq98 => ex_sliceFrom (l := 1) rfl rfl Try.underlying22 Try.size3 rfl (by omega) (rz_n hA).2) ?_
                rw [← List.length_drop]
                refine ql_val rfl (fun _ hq98 => ex_move rfl) ?_
                refine ql_val rfl (fun _ hq98 => ex_sliceFrom (l := 1) rfl rfl Try.underlying22 Try.size3 rfl (by omega) (rz_n hB).2) ?_
                rw [← List.length_drop]
                refine ql_val rfl (fun _ hq98 => ex_assign rfl) ?_
                refine ql_val rfl (fun _ hq98 => ex_assign rfl) ?_
                refine ql_nil (fun wq97 hq98 => nrm_block (nrm_block (nrm_same ?_)))
                have hE99 := hE51.then hq98
                have hO100 := hO52.evo0 hq98
                refine ⟨⟨(if ac = 1 then aa else aa.map (·.add (1 * 1))), ac - 1, al.drop 1, (if bc = 1 then ba else ba.map (·.add (1 * 1))), bc - 1, bl.drop 1, oa, oc, ol, oob⟩, ?_, ⟨rfl, rfl, rfl, trivial⟩, ⟨rfl, rfl, rfl, rfl, trivial⟩, hE99, ?_⟩
                · (try dsimp only); simp only [List.length_drop]; omega
                · skip
                  try dsimp only
                  have hm := mg_ab (fa := fa) (fab := fab) (fb := fb) (a := al) (b := bl) hx0 hy0 (by rw [hx1, hy1]; exact hc31) (by rw [hx1, hy1]; exact hc58)
                  rw [hx1] at hm
                  have hf9 : opt fab x1 = [] := by unfold opt; rw [if_neg (by rw [hc20]; decide)]
                  rw [hf9] at hm
                  have hM2 := hM
                  rw [hm] at hM2
                  rw [List.nil_append] at hM2
                  exact ⟨rz_from hA (by omega), rz_from hB (by omega), hO100, hG, hM2⟩
      · skip
        have hy0 : 0 < bl.length := by omega
        obtain ⟨b2, o2, ha2, hc2⟩ := rz_at hB hy0
        obtain ⟨y1, hy1⟩ : ∃ y1, bl[0] = y1 := ⟨_, rfl⟩
        rw [hy1] at hc2
        refine ql_no rfl rfl rfl rfl rfl rfl ?_
        refine ql_no rfl rfl rfl rfl rfl rfl ?_
        refine ql_no rfl rfl rfl rfl rfl rfl ?_
        refine ql_no rfl rfl rfl rfl rfl rfl ?_
        refine ql_no rfl rfl rfl rfl rfl rfl ?_
        refine ql_no rfl rfl rfl rfl rfl rfl ?_
        refine ql_no rfl rfl rfl rfl rfl rfl ?_
        refine ql_go rfl rfl rfl rfl ?_
        refine ql_val rfl (fun _ hq4 => ex_pick_f rfl rfl) ?_
        refine ql_val rfl (fun _ hq4 => ex_pick_f rfl rfl) ?_
        refine ql_val rfl (fun _ hq4 => ex_assign rfl) ?_
        refine ql_nil (fun wq3 hq4 => nrm_then ?_)
        have hE101 := hV2.then hq4
        have hO102 := hO.evo0 hq4
        refine cw_false rfl ?_
        refine cw_seq ?_
        refine cw_quiet (by kernel_rfl) (by kernel_rfl) ?_
        refine ql_val rfl (fun _ hq104 => ex_move rfl) ?_
        refine ql_val rfl (fun _ hq104 => ex_len_slice rfl Try.underlying22 rfl) ?_
        refine ql_val rfl (fun _ hq104 => ex_eql rfl rfl) ?_
        refine ql_val rfl (fun _ hq104 => ex_move rfl) ?_
        refine ql_split (t := 62) rfl (fun hs62 => ?_) (fun hs62 => ?_)
        · skip
          refine ql_no rfl rfl rfl rfl rfl rfl ?_
          refine ql_no rfl rfl rfl rfl rfl rfl ?_
          refine ql_no rfl rfl rfl rfl rfl rfl ?_
          refine ql_no rfl rfl rfl rfl rfl rfl ?_
          refine ql_no rfl rfl rfl rfl rfl rfl ?_
          refine ql_no rfl rfl rfl rfl rfl rfl ?_
          refine ql_no rfl rfl rfl rfl rfl rfl ?_
          refine ql_val rfl (fun _ hq104 => ex_pick_t rfl rfl) ?_
          refine ql_val rfl (fun _ hq104 => ex_assign rfl) ?_
          refine ql_nil (fun wq103 hq104 => nrm_then ?_)
          have hE105 := hE101.then hq104
          have hO106 := hO102.evo0 hq104
          refine cw_true rfl ?_
          refine cw_seq ?_
          refine cw_seq ?_
          refine cw_region ?_
          refine wl_val rfl (ex_move rfl) ?_
          refine wl_nil (nrm_then ?_)
          refine cw_ifb rfl (fun hc71 => ?_) (fun hc71 => ?_)
          · skip
            refine cw_region ?_
            refine wl_val rfl (ex_move rfl) ?_
            refine wl_val rfl (ex_move rfl) ?_
            refine wl_val rfl (ex_indexAddr (n := 0) (by rw [ha2]; rfl) rfl Try.elem22 (by omega)) ?_
            refine wl_val rfl (ex_load1 rfl Try.agg3 ((hE105).cell hc2 (fun h => by cases h))) ?_
            refine wl_bslice (vs := [_]) rfl Try.slice22 rfl rfl rfl rfl fun b107 w108 hO109 hs110 hw111 => ?_
            have hA112 := Apart.new (Lt.own hO106) hs110
            have hG113 := Ge.new hE105 hs110
            have hE114 := hE105.then hw111
            have hO115 := hO106.evo0 hw111
            refine wl_append rfl rfl rfl rfl Try.app22_22 hO115 (Src.ofOwn hO109 ⟨by first | rfl | assumption, trivial⟩) (by omega) fun oa9 oc9 w118 oob9 hO8 hw121 hob122 => ?_
            have hA123 := hA112.symm.app (Lt.own hO109) hob122
            have hG124 := hG.app hE114 hob122
            have hE125 := hE114.step hw121 hG.mem
            have hO126 := hO109.evo hw121 hA112.symm.own
            have hx9 : (ol ++ [y1]).length = ol.length + 1 := by simp
            rw [← hx9]
            have hO9 : OwnS w118 3 1 oa9 (ol ++ [y1]).length oc9 ((ol ++ [y1]).map iv) oob9 := by rw [hx9, List.map_append]; exact hO8
            refine wl_val rfl (ex_assign rfl) ?_
            refine wl_nil (nrm_then ?_)
            refine cw_region ?_
            refine wl_val rfl (ex_move rfl) ?_
            refine wl_val rfl (ex_sliceFrom (l := 1) rfl rfl Try.underlying22 Try.size3 rfl (by omega) (rz_n hB).2) ?_
            rw [← List.length_drop]
            refine wl_val rfl (ex_assign rfl) ?_
            refine wl_nil (nrm_block (nrm_block (nrm_same ?_)))
            refine ⟨⟨aa, ac, al, (if bc = 1 then ba else ba.map (·.add (1 * 1))), bc - 1, bl.drop 1, oa9, oc9, ol ++ [y1], oob9⟩, ?_, ⟨rfl, rfl, rfl, trivial⟩, ⟨rfl, rfl, rfl, rfl, trivial⟩, hE125, ?_⟩
            · (try dsimp only); simp only [List.length_drop]; omega
            · skip
              try dsimp only
              have hm := mg_b (fa := fa) (fab := fab) (fb := fb) (a := al) (b := bl) hy0 (.inl (by omega))
              rw [hy1] at hm
              have hf9 : opt fb y1 = [y1] := by unfold opt; rw [if_pos hc71]
              rw [hf9] at hm
              have hM2 := hM
              rw [hm] at hM2
              rw [← List.append_assoc] at hM2
              exact ⟨hA, rz_from hB (by omega), hO9, hG124, hM2⟩
          · skip
            refine cw_skip (nrm_then ?_)
            refine cw_region ?_
            refine wl_val rfl (ex_move rfl) ?_
            refine wl_val rfl (ex_sliceFrom (l := 1) rfl rfl Try.underlying22 Try.size3 rfl (by omega) (rz_n hB).2) ?_
            rw [← List.length_drop]
            refine wl_val rfl (ex_assign rfl) ?_
            refine wl_nil (nrm_block (nrm_block (nrm_same ?_)))
            refine ⟨⟨aa, ac, al, (if bc = 1 then ba else ba.map (·.add (1 * 1))), bc - 1, bl.drop 1, oa, oc, ol, oob⟩, ?_, ⟨rfl, rfl, rfl, trivial⟩, ⟨rfl, rfl, rfl, rfl, trivial⟩, hE105, ?_⟩
            · (try dsimp only); simp only [List.length_drop]; omega
            · skip
              try dsimp only
              have hm := mg_b (fa := fa) (fab := fab) (fb := fb) (a := al) (b := bl) hy0 (.inl (by omega))
              rw [hy1] at hm
              have hf9 : opt fb y1 = [] := by unfold opt; rw [if_neg (by rw [hc71]; decide)]
              rw [hf9] at hm
              have hM2 := hM
              rw [hm] at hM2
              rw [List.nil_append] at hM2
              exact ⟨hA, rz_from hB (by omega), hO106, hG, hM2⟩
        · skip
          exfalso; omega
  · skip
    refine wl_go rfl rfl rfl rfl ?_
    refine wl_val rfl (ex_move rfl) ?_
    refine wl_go rfl rfl rfl rfl ?_
    refine wl_val rfl (ex_len_slice rfl Try.underlying22 rfl) ?_
    refine wl_go rfl rfl rfl rfl ?_
    refine wl_val rfl (ex_gtr rfl rfl) ?_
    refine wl_val rfl (ex_pick_f rfl rfl) ?_
    refine wl_nil (nrm_then ?_)
    refine cw_if rfl (fun hc19 => ?_) (fun hc19 => ?_)
    · skip
      refine cw_skip (nrm_then ?_)
      refine cw_block ?_
      refine cw_block ?_
      refine cw_seq ?_
      refine cw_quiet (by kernel_rfl) (by kernel_rfl) ?_
      refine ql_val rfl (fun _ hq128 => ex_move rfl) ?_
      refine ql_val rfl (fun _ hq128 => ex_len_slice rfl Try.underlying22 rfl) ?_
      refine ql_val rfl (fun _ hq128 => ex_eql rfl rfl) ?_
      refine ql_val rfl (fun _ hq128 => ex_move rfl) ?_
      refine ql_split (t := 35) rfl (fun hs35 => ?_) (fun hs35 => ?_)
      · skip
        have hx0 : 0 < al.length := by omega
        obtain ⟨b1, o1, ha1, hc1⟩ := rz_at hA hx0
        obtain ⟨x1, hx1⟩ : ∃ x1, al[0] = x1 := ⟨_, rfl⟩
        rw [hx1] at hc1
        refine ql_no rfl rfl rfl rfl rfl rfl ?_
        refine ql_no rfl rfl rfl rfl rfl rfl ?_
        refine ql_no rfl rfl rfl rfl rfl rfl ?_
        refine ql_no rfl rfl rfl rfl rfl rfl ?_
        refine ql_nou rfl rfl rfl rfl rfl ?_
        refine ql_nou rfl rfl rfl rfl rfl ?_
        refine ql_nou rfl rfl rfl rfl rfl ?_
        refine ql_nou rfl rfl rfl rfl rfl ?_
        refine ql_nou rfl rfl rfl rfl rfl ?_
        refine ql_nou rfl rfl rfl rfl rfl ?_
        refine ql_nou rfl rfl rfl rfl rfl ?_
        refine ql_no rfl rfl rfl rfl rfl rfl ?_
        refine ql_val rfl (fun _ hq128 => ex_pick_t rfl rfl) ?_
        refine ql_val rfl (fun _ hq128 => ex_assign rfl) ?_
        refine ql_nil (fun wq127 hq128 => nrm_then ?_)
        have hE129 := hV2.then hq128
        have hO130 := hO.evo0 hq128
        refine cw_true rfl ?_
        refine cw_seq ?_
        refine cw_seq ?_
        refine cw_region ?_
        refine wl_val rfl (ex_move rfl) ?_
        refine wl_nil (nrm_then ?_)
        refine cw_ifb rfl (fun hc49 => ?_) (fun hc49 => ?_)
        · skip
          refine cw_region ?_
          refine wl_val rfl (ex_move rfl) ?_
          refine wl_val rfl (ex_move rfl) ?_
          refine wl_val rfl (ex_indexAddr (n := 0) (by rw [ha1]; rfl) rfl Try.elem22 (by omega)) ?_
          refine wl_val rfl (ex_load1 rfl Try.agg3 ((hE129).cell hc1 (fun h => by cases h))) ?_
          refine wl_bslice (vs := [_]) rfl Try.slice22 rfl rfl rfl rfl fun b131 w132 hO133 hs134 hw135 => ?_
          have hA136 := Apart.new (Lt.own hO130) hs134
          have hG137 := Ge.new hE129 hs134
          have hE138 := hE129.then hw135
          have hO139 := hO130.evo0 hw135
          refine wl_append rfl rfl rfl rfl Try.app22_22 hO139 (Src.ofOwn hO133 ⟨by first | rfl | assumption, trivial⟩) (by omega) fun oa9 oc9 w142 oob9 hO8 hw145 hob146 => ?_
          have hA147 := hA136.symm.app (Lt.own hO133) hob146
          have hG148 := hG.app hE138 hob146
          have hE149 := hE138.step hw145 hG.mem
          have hO150 := hO133.evo hw145 hA136.symm.own
          have hx9 : (ol ++ [x1]).length = ol.length + 1 := by simp
          rw [← hx9]
          have hO9 : OwnS w142 3 1 oa9 (ol ++ [x1]).length oc9 ((ol ++ [x1]).map iv) oob9 := by rw [hx9, List.map_append]; exact hO8
          refine wl_val rfl (ex_assign rfl) ?_
          refine wl_nil (nrm_then ?_)
          refine cw_region ?_
          refine wl_val rfl (ex_move rfl) ?_
          refine wl_val rfl (ex_sliceFrom (l := 1) rfl rfl Try.underlying22 Try.size3 rfl (by omega) (rz_n hA).2) ?_
          rw [← List.length_drop]
          refine wl_val rfl (ex_assign rfl) ?_
          refine wl_nil (nrm_block (nrm_block (nrm_same ?_)))
          refine ⟨⟨(if ac = 1 then aa else aa.map (·.add (1 * 1))), ac - 1, al.drop 1, ba, bc, bl, oa9, oc9, ol ++ [x1], oob9⟩, ?_, ⟨rfl, rfl, rfl, trivial⟩, ⟨rfl, rfl, rfl, rfl, trivial⟩, hE149, ?_⟩
          · (try dsimp only); simp only [List.length_drop]; omega
          · skip
            try dsimp only
            have hm := mg_a (fa := fa) (fab := fab) (fb := fb) (a := al) (b := bl) hx0 (.inl (by omega))
            rw [hx1] at hm
            have hf9 : opt fa x1 = [x1] := by unfold opt; rw [if_pos hc49]
            rw [hf9] at hm
            have hM2 := hM
            rw [hm] at hM2
            rw [← List.append_assoc] at hM2
            exact ⟨rz_from hA (by omega), hB, hO9, hG148, hM2⟩
        · skip
          refine cw_skip (nrm_then ?_)
          refine cw_region ?_
          refine wl_val rfl (ex_move rfl) ?_
          refine wl_val rfl (ex_sliceFrom (l := 1) rfl rfl Try.underlying22 Try.size3 rfl (by omega) (rz_n hA).2) ?_
          rw [← List.length_drop]
          refine wl_val rfl (ex_assign rfl) ?_
          refine wl_nil (nrm_block (nrm_block (nrm_same ?_)))
          refine ⟨⟨(if ac = 1 then aa else aa.map (·.add (1 * 1))), ac - 1, al.drop 1, ba, bc, bl, oa, oc, ol, oob⟩, ?_, ⟨rfl, rfl, rfl, trivial⟩, ⟨rfl, rfl, rfl, rfl, trivial⟩, hE129, ?_⟩
          · (try dsimp only); simp only [List.length_drop]; omega
          · skip
            try dsimp only
            have hm := mg_a (fa := fa) (fab := fab) (fb := fb) (a := al) (b := bl) hx0 (.inl (by omega))
            rw [hx1] at hm
            have hf9 : opt fa x1 = [] := by unfold opt; rw [if_neg (by rw [hc49]; decide)]
            rw [hf9] at hm
            have hM2 := hM
            rw [hm] at hM2
            rw [List.nil_append] at hM2
            exact ⟨rz_from hA (by omega), hB, hO130, hG, hM2⟩
      · skip
        refine ql_go rfl rfl rfl rfl ?_
        refine ql_val rfl (fun _ hq128 => ex_move rfl) ?_
        refine ql_go rfl rfl rfl rfl ?_
        refine ql_val rfl (fun _ hq128 => ex_len_slice rfl Try.underlying22 rfl) ?_
        refine ql_go rfl rfl rfl rfl ?_
        refine ql_val rfl (fun _ hq128 => ex_gtr rfl rfl) ?_
        refine ql_go rfl rfl rfl rfl ?_
        refine ql_val rfl (fun _ hq128 => ex_move rfl) ?_
        refine ql_split (t := 39) rfl (fun hs39 => ?_) (fun hs39 => ?_)
        · skip
          have hx0 : 0 < al.length := by omega
          obtain ⟨b1, o1, ha1, hc1⟩ := rz_at hA hx0
          obtain ⟨x1, hx1⟩ : ∃ x1, al[0] = x1 := ⟨_, rfl⟩
          rw [hx1] at hc1
          have hy0 : 0 < bl.length := by omega
          obtain ⟨b2, o2, ha2, hc2⟩ := rz_at hB hy0
          obtain ⟨y1, hy1⟩ : ∃ y1, bl[0] = y1 := ⟨_, rfl⟩
          rw [hy1] at hc2
          refine ql_go rfl rfl rfl rfl ?_
          refine ql_val rfl (fun _ hq128 => ex_move rfl) ?_
          refine ql_go rfl rfl rfl rfl ?_
          refine ql_val rfl (fun _ hq128 => ex_indexAddr (n := 0) (by rw [ha1]; rfl) rfl Try.elem22 (by omega)) ?_
          refine ql_go rfl rfl rfl rfl ?_
          refine ql_val rfl (fun _ hq128 => ex_load1 rfl Try.agg3 (((hV2.then hq128)).cell hc1 (fun h => by cases h))) ?_
          refine ql_go rfl rfl rfl rfl ?_
          refine ql_val rfl (fun _ hq128 => ex_move rfl) ?_
          refine ql_go rfl rfl rfl rfl ?_
          refine ql_val rfl (fun _ hq128 => ex_indexAddr (n := 0) (by rw [ha2]; rfl) rfl Try.elem22 (by omega)) ?_
          refine ql_go rfl rfl rfl rfl ?_
          refine ql_val rfl (fun _ hq128 => ex_load1 rfl Try.agg3 (((hV2.then hq128)).cell hc2 (fun h => by cases h))) ?_
          refine ql_go rfl rfl rfl rfl ?_
          refine ql_val rfl (fun _ hq128 => ex_lss rfl rfl) ?_
          refine ql_go rfl rfl rfl rfl ?_
          refine ql_val rfl (fun _ hq128 => ex_pick_t rfl rfl) ?_
          refine ql_val rfl (fun _ hq128 => ex_pick_f rfl rfl) ?_
          refine ql_val rfl (fun _ hq128 => ex_assign rfl) ?_
          refine ql_nil (fun wq127 hq128 => nrm_then ?_)
          have hE151 := hV2.then hq128
          have hO152 := hO.evo0 hq128
          refine cw_if rfl (fun hc31 => ?_) (fun hc31 => ?_)
          · skip
            refine cw_seq ?_
            refine cw_seq ?_
            refine cw_region ?_
            refine wl_val rfl (ex_move rfl) ?_
            refine wl_nil (nrm_then ?_)
            refine cw_ifb rfl (fun hc49 => ?_) (fun hc49 => ?_)
            · skip
              refine cw_region ?_
              refine wl_val rfl (ex_move rfl) ?_
              refine wl_val rfl (ex_move rfl) ?_
              refine wl_val rfl (ex_indexAddr (n := 0) (by rw [ha1]; rfl) rfl Try.elem22 (by omega)) ?_
              refine wl_val rfl (ex_load1 rfl Try.agg3 ((hE151).cell hc1 (fun h => by cases h))) ?_
              refine wl_bslice (vs := [_]) rfl Try.slice22 rfl rfl rfl rfl fun b153 w154 hO155 hs156 hw157 => ?_
              have hA158 := Apart.new (Lt.own hO152) hs156
              have hG159 := Ge.new hE151 hs156
              have hE160 := hE151.then hw157
              have hO161 := hO152.evo0 hw157
              refine wl_append rfl rfl rfl rfl Try.app22_22 hO161 (Src.ofOwn hO155 ⟨by first | rfl | assumption, trivial⟩) (by omega) fun oa9 oc9 w164 oob9 hO8 hw167 hob168 => ?_
              have hA169 := hA158.symm.app (Lt.own hO155) hob168
              have hG170 := hG.app hE160 hob168
              have hE171 := hE160.step hw167 hG.mem
              have hO172 := hO155.evo hw167 hA158.symm.own
              have hx9 : (ol ++ [x1]).length = ol.length + 1 := by simp
              rw [← hx9]
              have hO9 : OwnS w164 3 1 oa9 (ol ++ [x1]).length oc9 ((ol ++ [x1]).map iv) oob9 := by rw [hx9, List.map_append]; exact hO8
              refine wl_val rfl (ex_assign rfl) ?_
              refine wl_nil (nrm_then ?_)
              refine cw_region ?_
              refine wl_val rfl (ex_move rfl) ?_
              refine wl_val rfl (ex_sliceFrom (l := 1) rfl rfl Try.underlying22 Try.size3 rfl (by omega) (rz_n hA).2) ?_
              rw [← List.length_drop]
              refine wl_val rfl (ex_assign rfl) ?_
              refine wl_nil (nrm_block (nrm_block (nrm_same ?_)))
              refine ⟨⟨(if ac = 1 then aa else aa.map (·.add (1 * 1))), ac - 1, al.drop 1, ba, bc, bl, oa9, oc9, ol ++ [x1], oob9⟩, ?_, ⟨rfl, rfl, rfl, trivial⟩, ⟨rfl, rfl, rfl, rfl, trivial⟩, hE171, ?_⟩
              · (try dsimp only); simp only [List.length_drop]; omega
              · skip
                try dsimp only
                have hm := mg_a (fa := fa) (fab := fab) (fb := fb) (a := al) (b := bl) hx0 (.inr ⟨hy0, by rw [hx1, hy1]; exact hc31⟩)
                rw [hx1] at hm
                have hf9 : opt fa x1 = [x1] := by unfold opt; rw [if_pos hc49]
                rw [hf9] at hm
                have hM2 := hM
                rw [hm] at hM2
                rw [← List.append_assoc] at hM2
                exact ⟨rz_from hA (by omega), hB, hO9, hG170, hM2⟩
            · skip
              refine cw_skip (nrm_then ?_)
              refine cw_region ?_
              refine wl_val rfl (ex_move rfl) ?_
              refine wl_val rfl (ex_sliceFrom (l := 1) rfl rfl Try.underlying22 Try.size3 rfl (by omega) (rz_n hA).2) ?_
              rw [← List.length_drop]
              refine wl_val rfl (ex_assign rfl) ?_
              refine wl_nil (nrm_block (nrm_block (nrm_same ?_)))
              refine ⟨⟨(if ac = 1 then aa else aa.map (·.add (1 * 1))), ac - 1, al.drop 1, ba, bc, bl, oa, oc, ol, oob⟩, ?_, ⟨rfl, rfl, rfl, trivial⟩, ⟨rfl, rfl, rfl, rfl, trivial⟩, hE151, ?_⟩
              · (try dsimp only); simp only [List.length_drop]; omega
              · skip
                try dsimp only
                have hm := mg_a (fa := fa) (fab := fab) (fb := fb) (a := al) (b := bl) hx0 (.inr ⟨hy0, by rw [hx1, hy1]; exact hc31⟩)
                rw [hx1] at hm
                have hf9 : opt fa x1 = [] := by unfold opt; rw [if_neg (by rw [hc49]; decide)]
                rw [hf9] at hm
                have hM2 := hM
                rw [hm] at hM2
                rw [List.nil_append] at hM2
                exact ⟨rz_from hA (by omega), hB, hO152, hG, hM2⟩
          · skip
            refine cw_seq ?_
            refine cw_quiet (by kernel_rfl) (by kernel_rfl) ?_
            refine ql_val rfl (fun _ hq174 => ex_move rfl) ?_
            refine ql_val rfl (fun _ hq174 => ex_len_slice rfl Try.underlying22 rfl) ?_
            refine ql_val rfl (fun _ hq174 => ex_eql rfl rfl) ?_
            refine ql_val rfl (fun _ hq174 => ex_move rfl) ?_
            refine ql_split (t := 62) rfl (fun hs62 => ?_) (fun hs62 => ?_)
            · skip
              exfalso; omega
            · skip
              refine ql_go rfl rfl rfl rfl ?_
              refine ql_val rfl (fun _ hq174 => ex_move rfl) ?_
              refine ql_go rfl rfl rfl rfl ?_
              refine ql_val rfl (fun _ hq174 => ex_indexAddr (n := 0) (by rw [ha2]; rfl) rfl Try.elem22 (by omega)) ?_
              refine ql_go rfl rfl rfl rfl ?_
              refine ql_val rfl (fun _ hq174 => ex_load1 rfl Try.agg3 (((hE151.then hq174)).cell hc2 (fun h => by cases h))) ?_
              refine ql_go rfl rfl rfl rfl ?_
              refine ql_val rfl (fun _ hq174 => ex_move rfl) ?_
              refine ql_go rfl rfl rfl rfl ?_
              refine ql_val rfl (fun _ hq174 => ex_indexAddr (n := 0) (by rw [ha1]; rfl) rfl Try.elem22 (by omega)) ?_
              refine ql_go rfl rfl rfl rfl ?_
              refine ql_val rfl (fun _ hq174 => ex_load1 rfl Try.agg3 (((hE151.then hq174)).cell hc1 (fun h => by cases h))) ?_
              refine ql_go rfl rfl rfl rfl ?_
              refine ql_val rfl (fun _ hq174 => ex_lss rfl rfl) ?_
              refine ql_val rfl (fun _ hq174 => ex_pick_f rfl rfl) ?_
              refine ql_val rfl (fun _ hq174 => ex_assign rfl) ?_
              refine ql_nil (fun wq173 hq174 => nrm_then ?_)
              have hE175 := hE151.then hq174
              have hO176 := hO152.evo0 hq174
              refine cw_if rfl (fun hc58 => ?_) (fun hc58 => ?_)
              · skip
                refine cw_seq ?_
                refine cw_seq ?_
                refine cw_region ?_
                refine wl_val rfl (ex_move rfl) ?_
                refine wl_nil (nrm_then ?_)
                refine cw_ifb rfl (fun hc71 => ?_) (fun hc71 => ?_)
                · skip
                  refine cw_region ?_
                  refine wl_val rfl (ex_move rfl) ?_
                  refine wl_val rfl (ex_move rfl) ?_
                  refine wl_val rfl (ex_indexAddr (n := 0) (by rw [ha2]; rfl) rfl Try.elem22 (by omega)) ?_
                  refine wl_val rfl (ex_load1 rfl Try.agg3 ((hE175).cell hc2 (fun h => by cases h))) ?_
                  refine wl_bslice (vs := [_]) rfl Try.slice22 rfl rfl rfl rfl fun b177 w178 hO179 hs180 hw181 => ?_
                  have hA182 := Apart.new (Lt.own hO176) hs180
                  have hG183 := Ge.new hE175 hs180
                  have hE184 := hE175.then hw181
                  have hO185 := hO176.evo0 hw181
                  refine wl_append rfl rfl rfl rfl Try.app22_22 hO185 (Src.ofOwn hO179 ⟨by first | rfl | assumption, trivial⟩) (by omega) fun oa9 oc9 w188 oob9 hO8 hw191 hob192 => ?_
                  have hA193 := hA182.symm.app (Lt.own hO179) hob192
                  have hG194 := hG.app hE184 hob192
                  have hE195 := hE184.step hw191 hG.mem
                  have hO196 := hO179.evo hw191 hA182.symm.own
                  have hx9 : (ol ++ [y1]).length = ol.length + 1 := by simp
                  rw [← hx9]
                  have hO9 : OwnS w188 3 1 oa9 (ol ++ [y1]).length oc9 ((ol ++ [y1]).map iv) oob9 := by rw [hx9, List.map_append]; exact hO8
                  refine wl_val rfl (ex_assign rfl) ?_
                  refine wl_nil (nrm_then ?_)
                  refine cw_region ?_
                  refine wl_val rfl (ex_move rfl) ?_
                  refine wl_val rfl (ex_sliceFrom (l := 1) rfl rfl Try.underlying22 Try.size3 rfl (by omega) (rz_n hB).2) ?_
                  rw [← List.length_drop]
                  refine wl_val rfl (ex_assign rfl) ?_
                  refine wl_nil (nrm_block (nrm_block (nrm_same ?_)))
                  refine ⟨⟨aa, ac, al, (if bc = 1 then ba else ba.map (·.add (1 * 1))), bc - 1, bl.drop 1, oa9, oc9, ol ++ [y1], oob9⟩, ?_, ⟨rfl, rfl, rfl, trivial⟩, ⟨rfl, rfl, rfl, rfl, trivial⟩, hE195, ?_⟩
                  · (try dsimp only); simp only [List.length_drop]; omega
                  · skip
                    try dsimp only
                    have hm := mg_b (fa := fa) (fab := fab) (fb := fb) (a := al) (b := bl) hy0 (.inr ⟨hx0, by rw [hx1, hy1]; exact hc58⟩)
                    rw [hy1] at hm
                    have hf9 : opt fb y1 = [y1] := by unfold opt; rw [if_pos hc71]
                    rw [hf9] at hm
                    have hM2 := hM
                    rw [hm] at hM2
                    rw [← List.append_assoc] at hM2
                    exact ⟨hA, rz_from hB (by omega), hO9, hG194, hM2⟩
                · skip
                  refine cw_skip (nrm_then ?_)
                  refine cw_region ?_
                  refine wl_val rfl (ex_move rfl) ?_
                  refine wl_val rfl (ex_sliceFrom (l := 1) rfl rfl Try.underlying22 Try.size3 rfl (by omega) (rz_n hB).2) ?_
                  rw [← List.length_drop]
                  refine wl_val rfl (ex_assign rfl) ?_
                  refine wl_nil (nrm_block (nrm_block (nrm_same ?_)))
                  refine ⟨⟨aa, ac, al, (if bc = 1 then ba else ba.map (·.add (1 * 1))), bc - 1, bl.drop 1, oa, oc, ol, oob⟩, ?_, ⟨rfl, rfl, rfl, trivial⟩, ⟨rfl, rfl, rfl, rfl, trivial⟩, hE175, ?_⟩
                  · (try dsimp only); simp only [List.length_drop]; omega
                  · skip
                    try dsimp only
                    have hm := mg_b (fa := fa) (fab := fab) (fb := fb) (a := al) (b := bl) hy0 (.inr ⟨hx0, by rw [hx1, hy1]; exact hc58⟩)
                    rw [hy1] at hm
                    have hf9 : opt fb y1 = [] := by unfold opt; rw [if_neg (by rw [hc71]; decide)]
                    rw [hf9] at hm
                    have hM2 := hM
                    rw [hm] at hM2
                    rw [List.nil_append] at hM2
                    exact ⟨hA, rz_from hB (by omega), hO176, hG, hM2⟩
              · skip
                refine cw_seq ?_
                refine cw_seq ?_
                refine cw_region ?_
                refine wl_val rfl (ex_move rfl) ?_
                refine wl_nil (nrm_then ?_)
                refine cw_ifb rfl (fun hc20 => ?_) (fun hc20 => ?_)
                · skip
                  refine cw_region ?_
                  refine wl_val rfl (ex_move rfl) ?_
                  refine wl_val rfl (ex_move rfl) ?_
                  refine wl_val rfl (ex_indexAddr (n := 0) (by rw [ha1]; rfl) rfl Try.elem22 (by omega)) ?_
                  refine wl_val rfl (ex_load1 rfl Try.agg3 ((hE175).cell hc1 (fun h => by cases h))) ?_
                  refine wl_bslice (vs := [_]) rfl Try.slice22 rfl rfl rfl rfl fun b197 w198 hO199 hs200 hw201 => ?_
                  have hA202 := Apart.new (Lt.own hO176) hs200
                  have hG203 := Ge.new hE175 hs200
                  have hE204 := hE175.then hw201
                  have hO205 := hO176.evo0 hw201
                  refine wl_append rfl rfl rfl rfl Try.app22_22 hO205 (Src.ofOwn hO199 ⟨by first | rfl | assumption, trivial⟩) (by omega) fun oa9 oc9 w208 oob9 hO8 hw211 hob212 => ?_
                  have hA213 := hA202.symm.app (Lt.own hO199) hob212
                  have hG214 := hG.app hE204 hob212
                  have hE215 := hE204.step hw211 hG.mem
                  have hO216 := hO199.evo hw211 hA202.symm.own
                  have hx9 : (ol ++ [x1]).length = ol.length + 1 := by simp
                  rw [← hx9]
                  have hO9 : OwnS w208 3 1 oa9 (ol ++ [x1]).length oc9 ((ol ++ [x1]).map iv) oob9 := by rw [hx9, List.map_append]; exact hO8
                  refine wl_val rfl (ex_assign rfl) ?_
                  refine wl_nil (nrm_then ?_)
                  refine cw_quiet (by kernel_rfl) (by kernel_rfl) ?_
                  refine ql_val rfl (fun _ hq218 => ex_move rfl) ?_
                  refine ql_val rfl (fun _ hq218 => ex_sliceFrom (l := 1) rfl rfl Try.underlying22 Try.size3 rfl (by omega) (rz_n hA).2) ?_
                  rw [← List.length_drop]
                  refine ql_val rfl (fun _ hq218 => ex_move rfl) ?_
                  refine ql_val rfl (fun _ hq218 => ex_sliceFrom (l := 1) rfl rfl Try.underlying22 Try.size3 rfl (by omega) (rz_n hB).2) ?_
                  rw [← List.length_drop]
                  refine ql_val rfl (fun _ hq218 => ex_assign rfl) ?_
                  refine ql_val rfl (fun _ hq218 => ex_assign rfl) ?_
                  refine ql_nil (fun wq217 hq218 => nrm_block (nrm_block (nrm_same ?_)))
                  have hE219 := hE215.then hq218
                  have hO220 := hO9.evo0 hq218
                  refine ⟨⟨(if ac = 1 then aa else aa.map (·.add (1 * 1))), ac - 1, al.drop 1, (if bc = 1 then ba else ba.map (·.add (1 * 1))), bc - 1, bl.drop 1, oa9, oc9, ol ++ [x1], oob9⟩, ?_, ⟨rfl, rfl, rfl, trivial⟩, ⟨rfl, rfl, rfl, rfl, trivial⟩, hE219, ?_⟩
                  · (try dsimp only); simp only [List.length_drop]; omega
                  · skip
                    try dsimp only
                    have hm := mg_ab (fa := fa) (fab := fab) (fb := fb) (a := al) (b := bl) hx0 hy0 (by rw [hx1, hy1]; exact hc31) (by rw [hx1, hy1]; exact hc58)
                    rw [hx1] at hm
                    have hf9 : opt fab x1 = [x1] := by unfold opt; rw [if_pos hc20]
                    rw [hf9] at hm
                    have hM2 := hM
                    rw [hm] at hM2
                    rw [← List.append_assoc] at hM2
                    exact ⟨rz_from hA (by omega), rz_from hB (by omega), hO220, hG214, hM2⟩
                · skip
                  refine cw_skip (nrm_then ?_)
                  refine cw_quiet (by kernel_rfl) (by kernel_rfl) ?_
                  refine ql_val rfl (fun _ hq222 => ex_move rfl) ?_
                  refine ql_val rfl (fun _ hq222 => ex_sliceFrom (l := 1) rfl rfl Try.underlying22 Try.size3 rfl (by omega) (rz_n hA).2) ?_
                  rw [← List.length_drop]
                  refine ql_val rfl (fun _ hq222 => ex_move rfl) ?_
                  refine ql_val rfl (fun _ hq222 => ex_sliceFrom (l := 1) rfl rfl Try.underlying22 Try.size3 rfl (by omega) (rz_n hB).2) ?_
                  rw [← List.length_drop]
                  refine ql_val rfl (fun _ hq222 => ex_assign rfl) ?_
                  refine ql_val rfl (fun _ hq222 => ex_assign rfl) ?_
                  refine ql_nil (fun wq221 hq222 => nrm_block (nrm_block (nrm_same ?_)))
                  have hE223 := hE175.then hq222
                  have hO224 := hO176.evo0 hq222
                  refine ⟨⟨(if ac = 1 then aa else aa.map (·.add (1 * 1))), ac - 1, al.drop 1, (if bc = 1 then ba else ba.map (·.add (1 * 1))), bc - 1, bl.drop 1, oa, oc, ol, oob⟩, ?_, ⟨rfl, rfl, rfl, trivial⟩, ⟨rfl, rfl, rfl, rfl, trivial⟩, hE223, ?_⟩
                  · (try dsimp only); simp only [List.length_drop]; omega
                  · skip
                    try dsimp only
                    have hm := mg_ab (fa := fa) (fab := fab) (fb := fb) (a := al) (b := bl) hx0 hy0 (by rw [hx1, hy1]; exact hc31) (by rw [hx1, hy1]; exact hc58)
                    rw [hx1] at hm
                    have hf9 : opt fab x1 = [] := by unfold opt; rw [if_neg (by rw [hc20]; decide)]
                    rw [hf9] at hm
                    have hM2 := hM
                    rw [hm] at hM2
                    rw [List.nil_append] at hM2
                    exact ⟨rz_from hA (by omega), rz_from hB (by omega), hO224, hG, hM2⟩
        · skip
          have hy0 : 0 < bl.length := by omega
          obtain ⟨b2, o2, ha2, hc2⟩ := rz_at hB hy0
          obtain ⟨y1, hy1⟩ : ∃ y1, bl[0] = y1 := ⟨_, rfl⟩
          rw [hy1] at hc2
          refine ql_no rfl rfl rfl rfl rfl rfl ?_
          refine ql_no rfl rfl rfl rfl rfl rfl ?_
          refine ql_no rfl rfl rfl rfl rfl rfl ?_
          refine ql_no rfl rfl rfl rfl rfl rfl ?_
          refine ql_no rfl rfl rfl rfl rfl rfl ?_
          refine ql_no rfl rfl rfl rfl rfl rfl ?_
          refine ql_no rfl rfl rfl rfl rfl rfl ?_
          refine ql_go rfl rfl rfl rfl ?_
          refine ql_val rfl (fun _ hq128 => ex_pick_f rfl rfl) ?_
          refine ql_val rfl (fun _ hq128 => ex_pick_f rfl rfl) ?_
          refine ql_val rfl (fun _ hq128 => ex_assign rfl) ?_
          refine ql_nil (fun wq127 hq128 => nrm_then ?_)
          have hE225 := hV2.then hq128
          have hO226 := hO.evo0 hq128
          refine cw_false rfl ?_
          refine cw_seq ?_
          refine cw_quiet (by kernel_rfl) (by kernel_rfl) ?_
          refine ql_val rfl (fun _ hq228 => ex_move rfl) ?_
          refine ql_val rfl (fun _ hq228 => ex_len_slice rfl Try.underlying22 rfl) ?_
          refine ql_val rfl (fun _ hq228 => ex_eql rfl rfl) ?_
          refine ql_val rfl (fun _ hq228 => ex_move rfl) ?_
          refine ql_split (t := 62) rfl (fun hs62 => ?_) (fun hs62 => ?_)
          · skip
            refine ql_no rfl rfl rfl rfl rfl rfl ?_
            refine ql_no rfl rfl rfl rfl rfl rfl ?_
            refine ql_no rfl rfl rfl rfl rfl rfl ?_
            refine ql_no rfl rfl rfl rfl rfl rfl ?_
            refine ql_no rfl rfl rfl rfl rfl rfl ?_
            refine ql_no rfl rfl rfl rfl rfl rfl ?_
            refine ql_no rfl rfl rfl rfl rfl rfl ?_
            refine ql_val rfl (fun _ hq228 => ex_pick_t rfl rfl) ?_
            refine ql_val rfl (fun _ hq228 => ex_assign rfl) ?_
            refine ql_nil (fun wq227 hq228 => nrm_then ?_)
            have hE229 := hE225.then hq228
            have hO230 := hO226.evo0 hq228
            refine cw_true rfl ?_
            refine cw_seq ?_
            refine cw_seq ?_
            refine cw_region ?_
            refine wl_val rfl (ex_move rfl) ?_
            refine wl_nil (nrm_then ?_)
            refine cw_ifb rfl (fun hc71 => ?_) (fun hc71 => ?_)
            · skip
              refine cw_region ?_
              refine wl_val rfl (ex_move rfl) ?_
              refine wl_val rfl (ex_move rfl) ?_
              refine wl_val rfl (ex_indexAddr (n := 0) (by rw [ha2]; rfl) rfl Try.elem22 (by omega)) ?_
              refine wl_val rfl (ex_load1 rfl Try.agg3 ((hE229).cell hc2 (fun h => by cases h))) ?_
              refine wl_bslice (vs := [_]) rfl Try.slice22 rfl rfl rfl rfl fun b231 w232 hO233 hs234 hw235 => ?_
              have hA236 := Apart.new (Lt.own hO230) hs234
              have hG237 := Ge.new hE229 hs234
              have hE238 := hE229.then hw235
              have hO239 := hO230.evo0 hw235
              refine wl_append rfl rfl rfl rfl Try.app22_22 hO239 (Src.ofOwn hO233 ⟨by first | rfl | assumption, trivial⟩) (by omega) fun oa9 oc9 w242 oob9 hO8 hw245 hob246 => ?_
              have hA247 := hA236.symm.app (Lt.own hO233) hob246
              have hG248 := hG.app hE238 hob246
              have hE249 := hE238.step hw245 hG.mem
              have hO250 := hO233.evo hw245 hA236.symm.own
              have hx9 : (ol ++ [y1]).length = ol.length + 1 := by simp
              rw [← hx9]
              have hO9 : OwnS w242 3 1 oa9 (ol ++ [y1]).length oc9 ((ol ++ [y1]).map iv) oob9 := by rw [hx9, List.map_append]; exact hO8
              refine wl_val rfl (ex_assign rfl) ?_
              refine wl_nil (nrm_then ?_)
              refine cw_region ?_
              refine wl_val rfl (ex_move rfl) ?_
              refine wl_val rfl (ex_sliceFrom (l := 1) rfl rfl Try.underlying22 Try.size3 rfl (by omega) (rz_n hB).2) ?_
              rw [← List.length_drop]
              refine wl_val rfl (ex_assign rfl) ?_
              refine wl_nil (nrm_block (nrm_block (nrm_same ?_)))
              refine ⟨⟨aa, ac, al, (if bc = 1 then ba else ba.map (·.add (1 * 1))), bc - 1, bl.drop 1, oa9, oc9, ol ++ [y1], oob9⟩, ?_, ⟨rfl, rfl, rfl, trivial⟩, ⟨rfl, rfl, rfl, rfl, trivial⟩, hE249, ?_⟩
              · (try dsimp only); simp only [List.length_drop]; omega
              · skip
                try dsimp only
                have hm := mg_b (fa := fa) (fab := fab) (fb := fb) (a := al) (b := bl) hy0 (.inl (by omega))
                rw [hy1] at hm
                have hf9 : opt fb y1 = [y1] := by unfold opt; rw [if_pos hc71]
                rw [hf9] at hm
                have hM2 := hM
                rw [hm] at hM2
                rw [← List.append_assoc] at hM2
                exact ⟨hA, rz_from hB (by omega), hO9, hG248, hM2⟩
            · skip
              refine cw_skip (nrm_then ?_)
              refine cw_region ?_
              refine wl_val rfl (ex_move rfl) ?_
              refine wl_val rfl (ex_sliceFrom (l := 1) rfl rfl Try.underlying22 Try.size3 rfl (by omega) (rz_n hB).2) ?_
              rw [← List.length_drop]
              refine wl_val rfl (ex_assign rfl) ?_
              refine wl_nil (nrm_block (nrm_block (nrm_same ?_)))
              refine ⟨⟨aa, ac, al, (if bc = 1 then ba else ba.map (·.add (1 * 1))), bc - 1, bl.drop 1, oa, oc, ol, oob⟩, ?_, ⟨rfl, rfl, rfl, trivial⟩, ⟨rfl, rfl, rfl, rfl, trivial⟩, hE229, ?_⟩
              · (try dsimp only); simp only [List.length_drop]; omega
              · skip
                try dsimp only
                have hm := mg_b (fa := fa) (fab := fab) (fb := fb) (a := al) (b := bl) hy0 (.inl (by omega))
                rw [hy1] at hm
                have hf9 : opt fb y1 = [] := by unfold opt; rw [if_neg (by rw [hc71]; decide)]
                rw [hf9] at hm
                have hM2 := hM
                rw [hm] at hM2
                rw [List.nil_append] at hM2
                exact ⟨hA, rz_from hB (by omega), hO230, hG, hM2⟩
          · skip
            exfalso; omega
    · skip
      refine cw_exit (ex_then (ex_then (ex_here (nrm_then ?_))))
      refine cw_seq ?_
      refine cw_region ?_
      refine wl_val rfl (ex_move rfl) ?_
      refine wl_val rfl (ex_assign rfl) ?_
      refine wl_nil (nrm_then ?_)
      refine cw_ret (body_ret1 rfl rfl ?_)
      have hz := mg_nil (fa := fa) (fab := fab) (fb := fb) (a := al) (b := bl) (by omega) (by omega)
      rw [hz, List.append_nil] at hM
      exact ⟨oa, oc, oob, by rw [← hM], by rw [← hM]; exact hO, hG, hV2⟩

end Go.Proofs.Ytebghjbfdpeipaa
