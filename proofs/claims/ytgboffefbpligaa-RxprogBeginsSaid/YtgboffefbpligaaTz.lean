/- lit, wide. -/
import Derived.Test.YtgboffefbpligaaTq
import Derived.Test.YtgboffefbpligaaPg
namespace Go.Proofs.Ytgboffefbpligaa
open Go.Proofs
open Go.W Go.RowKit
attribute [local irreducible] Decidable.decide
set_option linter.unusedSimpArgs false
set_option linter.unusedVariables false
theorem Try.build25 : Build Try.prog 25 #[(0, 1), (1, 1), (2, 1), (3, 1), (4, 1), (5, 1), (6, 1), (7, 1), (8, 1)] #[.int .i64 0, .int .i32 0, .slice none 0 0, .int .i64 0, .int .i64 0, .bool false, .int .i64 0, .string ByteArray.empty, .slice none 0 0] := ⟨_, .agg #[.int .i64 0, .int .i32 0, .slice none 0 0, .int .i64 0, .int .i64 0, .bool false, .int .i64 0, .string ByteArray.empty, .slice none 0 0], Try.underlying25, by kernel_rfl, rfl, fun w => by kernel_rfl⟩
theorem Try.goes20 : Goes Try.prog 20 := ⟨_, Try.func20, by kernel_rfl, by kernel_rfl⟩
theorem Try.zero3 : zeroB Try.prog 3 = some #[.int .i64 0] := by kernel_rfl


def litX (r : Int) : Rx := .mk 2 r [] 0 0 false 0 (ByteArray.mk #[]) []
abbrev litV (r : Int) : List Value := [iv 2, .int .i32 r, .slice none 0 0, iv 0, iv 0, .bool false, iv 0, .string (ByteArray.mk #[]), .slice none 0 0]
theorem litX_rx (r : Int) (X : List Nat) (w : World) : RRx 1 X w (litV r) (litX r) := ⟨_, _, rfl, rnil0, rnil0, Nat.zero_le _, Nat.zero_le _, Nat.zero_le _⟩
theorem litX_ok {r : Int} (h0 : 0 ≤ r) (h1 : r ≤ 1114111) : (litX r).Ok := by
  have hp : NodeP (litX r) := ⟨by show (1 : Int) ≤ 2; decide, by show (2 : Int) ≤ 13; decide, .inl rfl, .inr rfl, .inr ⟨rfl, rfl, rfl⟩, .inr ⟨rfl, rfl⟩, fun _ => ⟨h0, h1⟩, fun h => absurd (show (2 : Int) = 3 from h) (by decide), fun h => absurd (show (2 : Int) = 4 ∨ (2 : Int) = 5 from h) (by decide), fun h => absurd (show (2 : Int) = 6 from h) (by decide), fun h => absurd (show (2 : Int) = 7 from h) (by decide), fun _ => rfl⟩
  refine ⟨(1, []), ?_⟩
  rw [fine_yes (x := litX r) (b := 0) (st := (0, [])) ⟨by decide, by show (if (2 : Int) = 7 then _ else _) ≤ 250; decide, hp, fun h => absurd (show (2 : Int) = 7 from h) (by decide)⟩]
  show fineKids [] _ _ _ = _
  rw [fineKids]
  rfl

theorem lit_ok {w : World} (r : Int) : Calls Try.prog 7 #[.int .i32 r] w (Ret fun v w' => v = .agg (litV r).toArray ∧ Evo [] w w') := by
  refine calls_of_cw (N := 5) Try.func7 rfl rfl rfl ?_
  refine cw_seq ?_
  refine cw_region ?_
  refine wl_alloc rfl Try.zero25 fun b1 w2 hB3 hs4 hw5 => ?_
  have hG6 := Ge.new (Evo.refl [] w) hs4
  have hE7 := (Evo.refl [] w).then hw5
  refine wl_nil (nrm_then ?_)
  refine cw_seq ?_
  refine cw_region ?_
  refine wl_m ?_
  refine wl_val rfl (ex_build (vs := [(0, _), (1, _)]) Try.build25 rfl (cells := [_, _, _, _, _, _, _, _, _]) rfl) ?_
  refine wl_storeBlk rfl rfl Try.size25 hB3 rfl rfl ⟨by first | rfl | assumption, by first | rfl | assumption, by first | rfl | assumption, by first | rfl | assumption, by first | rfl | assumption, by first | rfl | assumption, by first | rfl | assumption, by first | rfl | assumption, by first | rfl | assumption, trivial⟩ fun w8 hB9 hw10 => ?_
  have hE11 := hE7.step hw10 hG6.mem1
  refine wl_nil (nrm_then ?_)
  refine cw_ret (body_retC1 rfl (ResOk.cellA rfl Try.agg25 Try.size25 hB9 rfl) ?_)
  exact ⟨rfl, hE11⟩

set_option maxHeartbeats 4000000 in
theorem counted_step {n : Nat} (ih : ∀ {w : World} {bc : Nat} {k : Int} {vs : List Value} {t : Rx} (hB : w.heap[bc]? = some (.cells #[iv k] 3 (0, 0))) (h0 : 0 ≤ k) (h1 : k ≤ 200000) (hx : RRx n [bc] w vs t), Calls Try.prog 20 #[.agg vs.toArray, .pointer (some ⟨bc, 0, none⟩)] w (Ret fun v w' => ∃ bv k', v = .bool bv ∧ 0 ≤ k' ∧ k' ≤ 200001 ∧ w'.heap[bc]? = some (.cells #[iv k'] 3 (0, 0)) ∧ Evo [bc] w w')) {w : World} {bc : Nat} {k : Int} {vs : List Value} {t : Rx} (hB : w.heap[bc]? = some (.cells #[iv k] 3 (0, 0))) (h0 : 0 ≤ k) (h1 : k ≤ 200000) (hx : RRx (n + 1) [bc] w vs t) : Calls Try.prog 20 #[.agg vs.toArray, .pointer (some ⟨bc, 0, none⟩)] w (Ret fun v w' => ∃ bv k', v = .bool bv ∧ 0 ≤ k' ∧ k' ≤ 200001 ∧ w'.heap[bc]? = some (.cells #[iv k'] 3 (0, 0)) ∧ Evo [bc] w w') := by
  have hx0 := hx
  obtain ⟨m, xa, xc, ka, kc, hm, rfl, hrg, hk, bl1, bl2, bl3⟩ := hx.get
  obtain rfl : m = n := by omega
  obtain ⟨_, _, hke, hkc, e1⟩ := hk
  cases hke
  refine calls_of_cw (N := 41) Try.func20 rfl rfl rfl ?_
  refine cw_seq ?_
  refine cw_region ?_
  refine wl_boxA rfl rfl fun b2 w1 hB2 hs3 hw4 => ?_
  have hsz_b2 := hs3
  have hA5 := Apart.new (Lt.blk hB) hs3
  have hG6 := Ge.new (Evo.refl [bc] w) hs3
  have hE7 := (Evo.refl [bc] w).then hw4
  have hB8 := hw4.blk0 hB
  have hA2c := hA5.symm
  refine wl_a ?_
  refine wl_nil (nrm_then ?_)
  refine cw_seq ?_
  refine cw_region ?_
  refine wl_m ?_
  refine wl_val rfl (ex_nilCheck rfl) ?_
  refine wl_val rfl (ex_load1 rfl Try.agg3 (cell_nth hB8 rfl)) ?_
  refine wl_val rfl (ex_add_i64 rfl rfl (by omega) (by omega)) ?_
  refine wl_val rfl (ex_nilCheck rfl) ?_
  refine wl_store1 rfl rfl (by first | rfl | assumption) Try.size3 hB8 rfl fun w9 hB10 hw11 => ?_
  have hE12 := hE7.step hw11 (fun y hy => .inl hy)
  have hB13 := hw11.blk hB2 hA5.symm.nmem1
  try simp only [List.setIfInBounds_toArray, List.set_cons_zero, List.set_cons_succ, Nat.reduceAdd, Nat.zero_add, Nat.add_zero] at hB10
  refine wl_nil (nrm_then ?_)
  refine cw_seq ?_
  refine cw_seq ?_
  refine cw_region ?_
  refine wl_val rfl (ex_fieldAddr rfl Try.fld25_2) ?_
  refine wl_val rfl (ex_load1 rfl Try.agg22 (cell_nth hB13 rfl)) ?_
  refine wl_val rfl (ex_len_slice rfl Try.underlying22 rfl) ?_
  refine wl_val rfl (ex_gtr rfl rfl) ?_
  refine wl_nil (nrm_then ?_)
  refine cw_if rfl (fun hc14 => ?_) (fun hc14 => ?_)
  ·skip
   refine cw_region ?_
   refine wl_m ?_
   refine wl_val rfl (ex_nilCheck rfl) ?_
   refine wl_store1 rfl rfl (by first | rfl | assumption) Try.size3 hB10 rfl fun w14 hB15 hw16 => ?_
   have hE17 := hE12.step hw16 (fun y hy => .inl hy)
   have hB18 := hw16.blk hB13 hA5.symm.nmem1
   try simp only [List.setIfInBounds_toArray, List.set_cons_zero, List.set_cons_succ, Nat.reduceAdd, Nat.zero_add, Nat.add_zero] at hB15
   refine wl_nil (nrm_then ?_)
   refine cw_seq ?_
   refine cw_seq ?_
   refine cw_region ?_
   refine wl_a ?_
   refine wl_nil (nrm_then ?_)
   refine cw_block ?_
   refine cw_loop (α := Nat × Int) ((0, _)) (fun x => [(5, .int .i64 (x.1 : Nat))]) [(1, _), (2, _), (4, _)] (fun x wr => Evo [bc] w wr ∧ (x.1 ≤ t.kids.length ∧ 0 ≤ x.2 ∧ x.2 ≤ 200001 ∧ wr.heap[bc]? = some (.cells #[iv x.2] 3 (0, 0)) ∧ wr.heap[b2]? = some (.cells #[iv t.kind, .int .i32 t.r, .slice xa t.ranges.length xc, iv t.min, iv t.max, .bool t.lazy, iv t.cap, .string t.name, .slice ka t.kids.length kc] 25 (0, 0)))) (fun x => t.kids.length - x.1) ⟨rfl, trivial⟩ ⟨rfl, rfl, rfl, trivial⟩ ⟨hE17, ⟨Nat.zero_le _, by omega, by omega, hB15, hB18⟩⟩ ?_
   rintro ⟨j, q⟩ wr19 ⟨hV20, ⟨hj, hq0, hq1, hBC, hb2⟩⟩
   show CW _ _ _ _ [(5, .int .i64 (j : Nat)), (1, _), (2, _), (4, _)] _
   try dsimp only at hj
   try dsimp only at hq0
   try dsimp only at hq1
   try dsimp only at hBC
   try dsimp only at hb2
   refine cw_seq ?_
   refine cw_seq ?_
   refine cw_region ?_
   refine wl_m ?_
   refine wl_val rfl (ex_fieldAddr rfl Try.fld25_8) ?_
   refine wl_val rfl (ex_load1 rfl Try.agg23 (cell_nth hb2 rfl)) ?_
   refine wl_val rfl (ex_len_slice rfl Try.underlying23 rfl) ?_
   refine wl_val rfl (ex_lss rfl rfl) ?_
   refine wl_m ?_
   refine wl_split (t := 22) rfl (fun hs22 => ?_) (fun hs22 => ?_)
   ·skip
    refine wl_g ?_
    refine wl_m ?_
    refine wl_g ?_
    refine wl_val rfl (ex_nilCheck rfl) ?_
    refine wl_g ?_
    refine wl_val rfl (ex_load1 rfl Try.agg3 (cell_nth hBC rfl)) ?_
    refine wl_g ?_
    refine wl_val rfl (ex_leq rfl rfl) ?_
    refine wl_pt ?_
    refine wl_nil (nrm_then ?_)
    refine cw_if rfl (fun hc27 => ?_) (fun hc27 => ?_)
    ·skip
     have hj' : j < t.kids.length := by omega
     obtain ⟨b1, o1, vs1, ha1, hb1, hvl1, hc1, hrk⟩ := e1 j hj'
     obtain ⟨m1, ra1, rc1, ka1, kc1, rfl, rfl, -⟩ := id hrk.get
     refine cw_skip (nrm_then ?_)
     refine cw_seq ?_
     refine cw_block ?_
     refine cw_region ?_
     refine wl_val rfl (ex_fieldAddr rfl Try.fld25_8) ?_
     refine wl_val rfl (ex_load1 rfl Try.agg23 (cell_nth hb2 rfl)) ?_
     refine wl_m ?_
     refine wl_val rfl (ex_indexAddr (n := j) (by rw [ha1]; rfl) rfl Try.elem23 (by omega)) ?_
     refine wl_val rfl (ex_loadA rfl Try.agg25 Try.size25 (vs := [_, _, _, _, _, _, _, _, _]) rfl (hc1.evo hV20 hb1)) ?_
     refine wl_m ?_
     refine wl_call1 (vs := [_, _]) Try.goes20 rfl (ih hBC (by omega) (by omega) (RRx.pers _ _ _ _ _ _ hV20 hrk)) rfl ?_
     rintro _ w21 ⟨bv2, k2, rfl, hk20, hk21, hBk, hw22⟩
     have hE23 := hV20.step hw22 (fun y hy => .inl hy)
     have hB24 := hw22.blk hb2 (hA2c.nmem1)
     refine wl_nil (nrm_block (nrm_then ?_))
     refine cw_region ?_
     refine wl_m ?_
     refine wl_val rfl (ex_add_i64 rfl rfl (by omega) (by omega)) ?_
     refine wl_a ?_
     refine wl_nil (nrm_same ?_)
     refine ⟨(j + 1, k2), ?_, ⟨rfl, trivial⟩, ⟨rfl, rfl, rfl, trivial⟩, hE23, ?_⟩
     · (try dsimp only); omega
     ·skip
      try dsimp only
      exact ⟨by omega, hk20, hk21, hBk, hB24⟩
    ·skip
     refine cw_exit (ex_then (ex_then (ex_here (nrm_then ?_))))
     refine cw_seq ?_
     refine cw_region ?_
     refine wl_m ?_
     refine wl_val rfl (ex_nilCheck rfl) ?_
     refine wl_val rfl (ex_load1 rfl Try.agg3 (cell_nth hBC rfl)) ?_
     refine wl_val rfl (ex_leq rfl rfl) ?_
     refine wl_a ?_
     refine wl_nil (nrm_then ?_)
     refine cw_ret (body_ret1 rfl rfl ?_)
     exact ⟨_, q, rfl, hq0, hq1, hBC, hV20⟩
   ·skip
    refine wl_n ?_
    refine wl_n ?_
    refine wl_n ?_
    refine wl_n ?_
    refine wl_pf ?_
    refine wl_nil (nrm_then ?_)
    refine cw_false rfl ?_
    refine cw_exit (ex_then (ex_then (ex_here (nrm_then ?_))))
    refine cw_seq ?_
    refine cw_region ?_
    refine wl_m ?_
    refine wl_val rfl (ex_nilCheck rfl) ?_
    refine wl_val rfl (ex_load1 rfl Try.agg3 (cell_nth hBC rfl)) ?_
    refine wl_val rfl (ex_leq rfl rfl) ?_
    refine wl_a ?_
    refine wl_nil (nrm_then ?_)
    refine cw_ret (body_ret1 rfl rfl ?_)
    exact ⟨_, q, rfl, hq0, hq1, hBC, hV20⟩
  ·skip
   refine cw_skip (nrm_then ?_)
   refine cw_seq ?_
   refine cw_seq ?_
   refine cw_region ?_
   refine wl_a ?_
   refine wl_nil (nrm_then ?_)
   refine cw_block ?_
   refine cw_loop (α := Nat × Int) ((0, _)) (fun x => [(5, .int .i64 (x.1 : Nat))]) [(1, _), (2, _), (4, _)] (fun x wr => Evo [bc] w wr ∧ (x.1 ≤ t.kids.length ∧ 0 ≤ x.2 ∧ x.2 ≤ 200001 ∧ wr.heap[bc]? = some (.cells #[iv x.2] 3 (0, 0)) ∧ wr.heap[b2]? = some (.cells #[iv t.kind, .int .i32 t.r, .slice xa t.ranges.length xc, iv t.min, iv t.max, .bool t.lazy, iv t.cap, .string t.name, .slice ka t.kids.length kc] 25 (0, 0)))) (fun x => t.kids.length - x.1) ⟨rfl, trivial⟩ ⟨rfl, rfl, rfl, trivial⟩ ⟨hE12, ⟨Nat.zero_le _, by omega, by omega, hB10, hB13⟩⟩ ?_
   rintro ⟨j, q⟩ wr25 ⟨hV26, ⟨hj, hq0, hq1, hBC, hb2⟩⟩
   show CW _ _ _ _ [(5, .int .i64 (j : Nat)), (1, _), (2, _), (4, _)] _
   try dsimp only at hj
   try dsimp only at hq0
   try dsimp only at hq1
   try dsimp only at hBC
   try dsimp only at hb2
   refine cw_seq ?_
   refine cw_seq ?_
   refine cw_region ?_
   refine wl_m ?_
   refine wl_val rfl (ex_fieldAddr rfl Try.fld25_8) ?_
   refine wl_val rfl (ex_load1 rfl Try.agg23 (cell_nth hb2 rfl)) ?_
   refine wl_val rfl (ex_len_slice rfl Try.underlying23 rfl) ?_
   refine wl_val rfl (ex_lss rfl rfl) ?_
   refine wl_m ?_
   refine wl_split (t := 22) rfl (fun hs22 => ?_) (fun hs22 => ?_)
   ·skip
    refine wl_g ?_
    refine wl_m ?_
    refine wl_g ?_
    refine wl_val rfl (ex_nilCheck rfl) ?_
    refine wl_g ?_
    refine wl_val rfl (ex_load1 rfl Try.agg3 (cell_nth hBC rfl)) ?_
    refine wl_g ?_
    refine wl_val rfl (ex_leq rfl rfl) ?_
    refine wl_pt ?_
    refine wl_nil (nrm_then ?_)
    refine cw_if rfl (fun hc27 => ?_) (fun hc27 => ?_)
    ·skip
     have hj' : j < t.kids.length := by omega
     obtain ⟨b1, o1, vs1, ha1, hb1, hvl1, hc1, hrk⟩ := e1 j hj'
     obtain ⟨m1, ra1, rc1, ka1, kc1, rfl, rfl, -⟩ := id hrk.get
     refine cw_skip (nrm_then ?_)
     refine cw_seq ?_
     refine cw_block ?_
     refine cw_region ?_
     refine wl_val rfl (ex_fieldAddr rfl Try.fld25_8) ?_
     refine wl_val rfl (ex_load1 rfl Try.agg23 (cell_nth hb2 rfl)) ?_
     refine wl_m ?_
     refine wl_val rfl (ex_indexAddr (n := j) (by rw [ha1]; rfl) rfl Try.elem23 (by omega)) ?_
     refine wl_val rfl (ex_loadA rfl Try.agg25 Try.size25 (vs := [_, _, _, _, _, _, _, _, _]) rfl (hc1.evo hV26 hb1)) ?_
     refine wl_m ?_
     refine wl_call1 (vs := [_, _]) Try.goes20 rfl (ih hBC (by omega) (by omega) (RRx.pers _ _ _ _ _ _ hV26 hrk)) rfl ?_
     rintro _ w27 ⟨bv2, k2, rfl, hk20, hk21, hBk, hw28⟩
     have hE29 := hV26.step hw28 (fun y hy => .inl hy)
     have hB30 := hw28.blk hb2 (hA2c.nmem1)
     refine wl_nil (nrm_block (nrm_then ?_))
     refine cw_region ?_
     refine wl_m ?_
     refine wl_val rfl (ex_add_i64 rfl rfl (by omega) (by omega)) ?_
     refine wl_a ?_
     refine wl_nil (nrm_same ?_)
     refine ⟨(j + 1, k2), ?_, ⟨rfl, trivial⟩, ⟨rfl, rfl, rfl, trivial⟩, hE29, ?_⟩
     · (try dsimp only); omega
     ·skip
      try dsimp only
      exact ⟨by omega, hk20, hk21, hBk, hB30⟩
    ·skip
     refine cw_exit (ex_then (ex_then (ex_here (nrm_then ?_))))
     refine cw_seq ?_
     refine cw_region ?_
     refine wl_m ?_
     refine wl_val rfl (ex_nilCheck rfl) ?_
     refine wl_val rfl (ex_load1 rfl Try.agg3 (cell_nth hBC rfl)) ?_
     refine wl_val rfl (ex_leq rfl rfl) ?_
     refine wl_a ?_
     refine wl_nil (nrm_then ?_)
     refine cw_ret (body_ret1 rfl rfl ?_)
     exact ⟨_, q, rfl, hq0, hq1, hBC, hV26⟩
   ·skip
    refine wl_n ?_
    refine wl_n ?_
    refine wl_n ?_
    refine wl_n ?_
    refine wl_pf ?_
    refine wl_nil (nrm_then ?_)
    refine cw_false rfl ?_
    refine cw_exit (ex_then (ex_then (ex_here (nrm_then ?_))))
    refine cw_seq ?_
    refine cw_region ?_
    refine wl_m ?_
    refine wl_val rfl (ex_nilCheck rfl) ?_
    refine wl_val rfl (ex_load1 rfl Try.agg3 (cell_nth hBC rfl)) ?_
    refine wl_val rfl (ex_leq rfl rfl) ?_
    refine wl_a ?_
    refine wl_nil (nrm_then ?_)
    refine cw_ret (body_ret1 rfl rfl ?_)
    exact ⟨_, q, rfl, hq0, hq1, hBC, hV26⟩

theorem counted_ok : ∀ {n : Nat} {w : World} {bc : Nat} {k : Int} {vs : List Value} {t : Rx} (hB : w.heap[bc]? = some (.cells #[iv k] 3 (0, 0))) (h0 : 0 ≤ k) (h1 : k ≤ 200000) (hx : RRx n [bc] w vs t), Calls Try.prog 20 #[.agg vs.toArray, .pointer (some ⟨bc, 0, none⟩)] w (Ret fun v w' => ∃ bv k', v = .bool bv ∧ 0 ≤ k' ∧ k' ≤ 200001 ∧ w'.heap[bc]? = some (.cells #[iv k'] 3 (0, 0)) ∧ Evo [bc] w w')
  | 0, w, bc, k, vs, t, hB, h0, h1, hx => hx.elim
  | n + 1, w, bc, k, vs, t, hB, h0, h1, hx => counted_step (n := n) (fun hB h0 h1 hx => counted_ok hB h0 h1 hx) hB h0 h1 hx

theorem wide_ok {n : Nat} {w : World} {vs : List Value} {t : Rx} (hx : RRx n [] w vs t) : Calls Try.prog 9 #[.agg vs.toArray] w (Ret fun v w' => ∃ b, v = .bool b ∧ Evo [] w w') := by
  have hx0 := hx
  obtain ⟨m, xa, xc, ka, kc, hm, rfl, hrg, hk, bl1, bl2, bl3⟩ := hx.get
  refine calls_of_cw (N := 7) Try.func9 rfl rfl rfl ?_
  refine cw_seq ?_
  refine cw_region ?_
  refine wl_boxA rfl rfl fun b1 w1 hB2 hs3 hw4 => ?_
  have hsz_b1 := hs3
  have hG5 := Ge.new (Evo.refl [] w) hs3
  have hE6 := (Evo.refl [] w).then hw4
  refine wl_a ?_
  refine wl_nil (nrm_then ?_)
  refine cw_seq ?_
  refine cw_region ?_
  refine wl_alloc rfl Try.zero3 fun bc w7 hB8 hs9 hw10 => ?_
  have hsz_bc := hs9
  have hA11 := Apart.new (Lt.blk hB2) hs9
  have hG12 := Ge.new hE6 hs9
  have hE13 := hE6.then hw10
  have hB14 := hw10.blk0 hB2
  refine wl_store1 rfl rfl (by first | rfl | assumption) Try.size3 hB8 rfl fun w15 hB16 hw17 => ?_
  have hE18 := hE13.step hw17 hG12.mem1
  have hB19 := hw17.blk hB14 hA11.nmem1
  try simp only [List.setIfInBounds_toArray, List.set_cons_zero, List.set_cons_succ, Nat.reduceAdd, Nat.zero_add, Nat.add_zero] at hB16
  refine wl_nil (nrm_then ?_)
  refine cw_seq ?_
  refine cw_region ?_
  refine wl_val rfl (ex_loadBlk rfl Try.agg25 Try.size25 hB19 rfl) ?_
  refine wl_call1 (vs := [_, _]) Try.goes20 rfl (counted_ok hB16 (by decide) (by decide) (RRx.step hx0 hE18 hG12.mem1 (fun b hb => by cases hb))) rfl ?_
  rintro _ w20 ⟨bv, k', rfl, -, -, -, hw21⟩
  have hE22 := hE18.step hw21 (hG12.mem1)
  refine wl_val rfl (ex_notb rfl) ?_
  refine wl_a ?_
  refine wl_nil (nrm_then ?_)
  refine cw_ret (body_ret1 rfl rfl ?_)
  exact ⟨_, rfl, hE22⟩

end Go.Proofs.Ytgboffefbpligaa
