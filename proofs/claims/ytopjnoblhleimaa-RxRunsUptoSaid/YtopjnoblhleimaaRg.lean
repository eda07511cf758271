/- The walk of search: place after place, all threads at once. -/
import Derived.Test.YtopjnoblhleimaaRf
namespace Go.Proofs.Ytopjnoblhleimaa
open Go.Proofs
open Go.W
attribute [local irreducible] Decidable.decide
set_option linter.unusedSimpArgs false
set_option linter.unusedVariables false
theorem Try.build114 : Build Try.prog 114 #[(0, 4), (4, 1), (5, 1), (6, 1)] #[.slice none 0 0, .int .i64 0, .int .i64 0, .slice none 0 0, .string ByteArray.empty, .slice none 0 0, .slice none 0 0] := ⟨_, .agg #[.slice none 0 0, .int .i64 0, .int .i64 0, .slice none 0 0, .string ByteArray.empty, .slice none 0 0, .slice none 0 0], Try.underlying114, by kernel_rfl, rfl, fun w => by kernel_rfl⟩
theorem Try.goes63 : Goes Try.prog 63 := ⟨_, Try.func63, by kernel_rfl, by kernel_rfl⟩
theorem Try.goes64 : Goes Try.prog 64 := ⟨_, Try.func64, by kernel_rfl, by kernel_rfl⟩
theorem Try.make33 : makeB Try.prog 33 = some (3, 1, 8, #[.int .i64 0]) := by kernel_rfl
theorem Try.zero117 : zeroB Try.prog 117 = some #[.int .i64 0, .pointer none] := by kernel_rfl


theorem in_none {bm sb : Nat} {t : Option Nat} : ∀ y, y ∈ bm :: sb :: (none : Option Nat).toList → y ∈ bm :: sb :: t.toList := fun y hy => by
  simp at hy; rcases hy with h | h <;> simp [h]

set_option maxHeartbeats 4000000 in
theorem search_ok {X : List Nat} {w : World} {vs : List Value} {p : Prg} (hp : RPrg X w vs p) (hsp : SoundP p) (s : ByteArray) (hs : s.size ≤ 2097152) :
    Calls Try.prog 44 #[.agg vs.toArray, .string s] w (Ret fun v w' => ∃ nv b r W', v = .tuple #[nv, .bool b] ∧ Pk (mvOf p s) (nxtOf s) s.size 0 [(p.start.toNat, [])] WZ r W' ∧ ((r = none ∧ b = false) ∨ (∃ t, r = some t ∧ b = true ∧ RNote [] w' nv t)) ∧ Evo [] w w') := by
  obtain ⟨hok, pi0, pn0, rfl, hiv, hnv⟩ := hp
  have hst0 := hok.start
  have hgr := hok.groups
  have hil := hok.ilen
  have hnl := hok.nlen
  have hiv0 := hiv
  obtain ⟨a3, c3, rfl, hl3, e3⟩ := hiv
  obtain ⟨a4, c4, rfl, hl4, e4⟩ := hnv
  obtain ⟨hh1, hh2, hh3, hh4, hh5, hh6, hh7⟩ := hsp.1
  refine calls_of_cw (N := 121) Try.func44 rfl rfl rfl ?_
  refine cw_seq ?_
  refine cw_region ?_
  refine wl_boxA rfl rfl fun bP w1 hB2 hs3 hw4 => ?_
  have hG5 := Ge.new (Evo.refl [] w) hs3
  have hE6 := (Evo.refl [] w).then hw4
  refine wl_val rfl (ex_assign rfl) ?_
  refine wl_val rfl (ex_assign rfl) ?_
  refine wl_nil (nrm_then ?_)
  refine cw_seq ?_
  refine cw_any (fun w0 w' => Evo [] w0 w') (by kernel_rfl) (fun w7 hw8 => ?_)
  have hE9 := hE6.then hw8
  have hB10 := hw8.blk0 hB2
  refine ae_take 0 rfl (by kernel_rfl) (by kernel_rfl) (by kernel_rfl) rfl (fun _ hS => ex_loadBlk rfl Try.agg25 Try.size25 (hS.blk0 hB10) rfl) (Evo.refl [] w7) ?_
  refine ae_take 1 rfl (by kernel_rfl) (by kernel_rfl) (by kernel_rfl) rfl (fun _ hS => ex_move rfl) (Evo.refl [] w7) ?_
  refine ae_take 2 rfl (by kernel_rfl) (by kernel_rfl) (by kernel_rfl) rfl (fun _ hS => ex_fieldAddr rfl Try.fld25_0) (Evo.refl [] w7) ?_
  refine ae_take 3 rfl (by kernel_rfl) (by kernel_rfl) (by kernel_rfl) rfl (fun _ hS => ex_load1 rfl Try.agg22 (cell_nth (hS.blk0 hB10) rfl)) (Evo.refl [] w7) ?_
  refine ae_take 4 rfl (by kernel_rfl) (by kernel_rfl) (by kernel_rfl) rfl (fun _ hS => ex_len_slice rfl Try.underlying22 rfl) (Evo.refl [] w7) ?_
  refine ae_loud [5] (by kernel_rfl) rfl ⟨?_, trivial⟩
  refine a_step rfl ?_
  refine wl_make (len := p.insts.length) (c := p.insts.length) rfl rfl rfl Try.make33 (by rfl) (by rfl) (by omega) (by decide) (by omega) (by omega) fun sb w12 hSe0 hs14 hw15 => ?_
  have hA16 := Apart.new (Lt.blk hB10) hs14
  have hG17 := Ge.new hE9 hs14
  have hG18 := Ge.new (Evo.refl [] w7) hs14
  have hE19 := hE9.then hw15
  have hE20 := (Evo.refl [] w7).then hw15
  have hB21 := hw15.blk0 hB10
  rw [svc_zero] at hSe0
  refine wl_nil (ae_next (.inl hE20) ?_)
  refine ae_take 6 rfl (by kernel_rfl) (by kernel_rfl) (by kernel_rfl) rfl (fun _ hS => ex_build (vs := [(0, .agg #[.slice a3 p.insts.length c3, iv p.start, iv p.groups, .slice a4 p.names.length c4]), (1, .string s), (2, .slice (some ⟨sb, 0, none⟩) p.insts.length p.insts.length)]) Try.build114 rfl (cells := [.slice a3 p.insts.length c3, iv p.start, iv p.groups, .slice a4 p.names.length c4, .string s, .slice (some ⟨sb, 0, none⟩) p.insts.length p.insts.length, .slice none 0 0]) rfl) hE20 ?_
  refine ae_loud [7] (by kernel_rfl) rfl ⟨?_, trivial⟩
  refine a_step rfl ?_
  refine wl_boxA rfl rfl fun bm w22 hB23 hs24 hw25 => ?_
  have hA26 := Apart.new (Lt.blk hB21) hs24
  have hA27 := Apart.new (Lt.own hSe0) hs24
  have hG28 := Ge.new hE19 hs24
  have hG29 := Ge.new hE20 hs24
  have hE30 := hE19.then hw25
  have hE31 := hE20.then hw25
  have hB32 := hw25.blk0 hB21
  have hO33 := hSe0.evo0 hw25
  refine wl_nil (ae_next (.inl hE31) ?_)
  refine ae_take 8 rfl (by kernel_rfl) (by kernel_rfl) (by kernel_rfl) rfl (fun _ hS => ex_assign rfl) hE31 ?_
  refine ae_done (by kernel_rfl) (nrm_then ?_)
  refine cw_seq ?_
  have hpm : Apart (some bP) (some bm) := hA26
  have hps : Apart (some bP) (some sb) := hA16
  have hms : Apart (some bm) (some sb) := hA27.symm
  have hgp : Ge w (some bP) := hG5
  have hgm : Ge w (some bm) := hG28
  have hgs : Ge w (some sb) := hG17
  have hI2 : ∀ (t : Option Nat), Ge w t → ∀ {w' : World}, Evo [] w w' → RSl 5 RInst (bm :: sb :: t.toList) w' (.slice a3 p.insts.length c3) p.insts := fun t ht w' he => (hiv0.fresh (by decide) RInst.fresh (ge3 hgm hgs ht)).evo RInst.pers (he.any _)
  refine cw_region ?_
  refine wl_val rfl (ex_move rfl) ?_
  refine wl_val rfl (ex_fieldAddr rfl Try.fld25_1) ?_
  refine wl_val rfl (ex_load1 rfl Try.agg3 (cell_nth hB32 rfl)) ?_
  rw [show (Value.int .i64 p.start) = iv ((p.start.toNat : Nat) : Int) from by rw [Int.toNat_of_nonneg hh3]]
  refine wl_val rfl (ex_build (vs := [(0, _)]) Try.build117 rfl (cells := [_, _]) rfl) ?_
  refine wl_call1 (vs := [_, _, _]) Try.goes63 rfl (follow_ok (tob0 := none) (tr0 := []) (L0 := []) (a := 0) (i0 := p.start.toNat) (sv0 := fun _ => 0) (nv0 := .pointer none) (hI2 none (Ge.nil _) hE30) hsp hB23 hO33 (OwnS.nil _ _ _) (RowsOk.nil _ _ _ _) .nil (by omega) (Nat.zero_le _) hs (fun _ => Nat.zero_le _) (by have := us_le p.insts.length 0 (fun _ => 0); omega) hms (Apart.nil _) (Apart.nil _)) rfl ?_
  rintro _ w34 ⟨sv1, ta1, tn1, tc1, tr1, tob1, L1, rfl, heps, hM1, hSe1, hTh1, hTr1, hsv1, htn1, hmt1, hst1, hto1, hw35⟩
  have hgt1 : Ge w tob1 := by rcases hto1 with h | h; { subst h; exact Ge.nil _ }; { exact Ge.fresh hE30 h }
  have heps0 : Eps (mvOf p s) 0 [(p.start.toNat, [])] (fun _ => false) L1 (seenV 0 sv1) := by have h := heps; rw [show seenV 0 (fun _ => 0) = fun _ => false from by funext j; simp [seenV]] at h; exact h
  have hpt1 : Apart (some bP) tob1 := by rcases hto1 with h | h; { subst h; exact Apart.nil _ }; { exact Apart.fresh (Lt.blk hB32) h }
  have hE36 := hE30.step hw35 (ge3 hgm hgs (Ge.nil _))
  have hB37 := hw35.blk hB32 (nmk hpm hps (Apart.nil _))
  refine wl_nil (nrm_then ?_)
  refine cw_seq ?_
  refine cw_seq ?_
  refine cw_region ?_
  refine wl_val rfl (ex_assign rfl) ?_
  refine wl_nil (nrm_then ?_)
  refine cw_block ?_
  refine cw_loop (α := SG) (⟨0, sv1, L1, tr1, ta1, tn1, tc1, tob1⟩) (fun x => [(7, .int .i64 (x.a : Nat))]) [(1, _), (2, _), (6, _)] (fun x wr => Evo [] w wr ∧ (x.a ≤ s.size ∧ wr.heap[bP]? = some (.cells #[.slice a3 p.insts.length c3, iv p.start, iv p.groups, .slice a4 p.names.length c4] 25 (0, 0)) ∧ wr.heap[bm]? = some (.cells #[.slice a3 p.insts.length c3, iv p.start, iv p.groups, .slice a4 p.names.length c4, .string s, .slice (some ⟨sb, 0, none⟩) p.insts.length p.insts.length, .slice x.ta x.tn x.tc] 114 (0, 0)) ∧ OwnS wr 3 1 (some ⟨sb, 0, none⟩) p.insts.length p.insts.length (svc p.insts.length x.sv) (some sb) ∧ OwnS wr 117 2 x.ta x.tn x.tc x.tr.flatten x.tob ∧ RowsOk 2 RTh (bm :: sb :: x.tob.toList) wr x.tr x.ls ∧ (∀ j, x.sv j ≤ x.a + 1) ∧ (∀ d, d ∈ x.ls → (mvOf p s x.a d.1).leaf = true) ∧ x.tn ≤ p.insts.length ∧ (∀ r W', PkL p s x.a x.ls r W' → ∃ W2, Pk (mvOf p s) (nxtOf s) s.size 0 [(p.start.toNat, [])] WZ r W2) ∧ Apart (some bP) x.tob ∧ Apart (some bm) x.tob ∧ Apart (some sb) x.tob ∧ Ge w x.tob)) (fun x => s.size + 1 - x.a) ⟨rfl, trivial⟩ ⟨rfl, rfl, rfl, trivial⟩ ⟨hE36, ⟨Nat.zero_le _, hB37, hM1, hSe1, hTh1, hTr1, hsv1, fun d hd => eps_leaf heps d hd, (show tn1 ≤ p.insts.length by omega), fun r W' h => pk_of_eps heps0 h, hpt1, hmt1, hst1, hgt1⟩⟩ ?_
  rintro ⟨a, sv, ls, tr, ta, tn, tc, tob⟩ wr38 ⟨hV39, ⟨ha, hP, hM, hSe, hTh, hTr, hsv, hlf, htn, hPk, hpt, hmt, hst, hgt⟩⟩
  show CW _ _ _ _ [(7, .int .i64 (a : Nat)), (1, _), (2, _), (6, _)] _
  try dsimp only at ha
  try dsimp only at hP
  try dsimp only at hM
  try dsimp only at hSe
  try dsimp only at hTh
  try dsimp only at hTr
  try dsimp only at hsv
  try dsimp only at hlf
  try dsimp only at htn
  try dsimp only at hPk
  try dsimp only at hpt
  try dsimp only at hmt
  try dsimp only at hst
  try dsimp only at hgt
  have hE40 := Evo.refl ((bm :: sb :: tob.toList)) wr38
  have hll := rows_len hTh hTr
  have hlt : ∀ d, d ∈ ls → d.1 < p.insts.length := fun d hd => leaf_lt (hlf d hd)
  have hnw := next_w s a
  refine cw_seq ?_
  refine cw_seq ?_
  refine cw_region ?_
  refine wl_val rfl (ex_move rfl) ?_
  refine wl_val rfl (ex_nilCheck rfl) ?_
  refine wl_val rfl (ex_fieldAddr rfl Try.fld114_3) ?_
  refine wl_val rfl (ex_load1 rfl Try.agg112 (cell_nth hM rfl)) ?_
  refine wl_val rfl (ex_len_slice rfl Try.underlying112 rfl) ?_
  refine wl_val rfl (ex_gtr rfl rfl) ?_
  refine wl_nil (nrm_then ?_)
  refine cw_if rfl (fun hc36 => ?_) (fun hc36 => ?_)
  · skip
    refine cw_skip (nrm_then ?_)
    refine cw_block ?_
    refine cw_scope ?_
    refine cw_seq ?_
    refine cw_seq ?_
    refine cw_region ?_
    refine wl_val rfl (ex_move rfl) ?_
    refine wl_val rfl (ex_move rfl) ?_
    refine wl_val rfl (ex_len_str rfl Try.underlying9 rfl) ?_
    refine wl_val rfl (ex_eql rfl rfl) ?_
    refine wl_nil (nrm_then ?_)
    refine cw_if rfl (fun hc40 => ?_) (fun hc40 => ?_)
    · skip
      refine cw_seq ?_
      refine cw_seq ?_
      refine cw_region ?_
      refine wl_val rfl (ex_move rfl) ?_
      refine wl_val rfl (ex_nilCheck rfl) ?_
      refine wl_val rfl (ex_fieldAddr rfl Try.fld114_3) ?_
      refine wl_val rfl (ex_load1 rfl Try.agg112 (cell_nth hM rfl)) ?_
      refine wl_val rfl (ex_len_slice rfl Try.underlying112 rfl) ?_
      refine wl_val rfl (ex_move rfl) ?_
      refine wl_nil (nrm_then ?_)
      refine cw_block ?_
      refine cw_loop (α := Nat) (0) (fun k => [(46, .int .i64 (k : Nat))]) [(1, _), (2, _), (6, _), (7, _), (44, _), (45, _)] (fun k wr => Evo [] wr38 wr ∧ (k ≤ tn ∧ ∀ j (hj : j < ls.length), j < k → ∀ hi : ls[j].1 < p.insts.length, ¬ p.insts[ls[j].1].op = 1)) (fun k => tn - k) ⟨rfl, trivial⟩ ⟨rfl, rfl, rfl, rfl, rfl, rfl, trivial⟩ ⟨Evo.refl _ _, ⟨Nat.zero_le _, fun j _ h => by omega⟩⟩ ?_
      rintro k wr41 ⟨hV42, ⟨hk, hno⟩⟩
      show CW _ _ _ _ [(46, _), (1, _), (2, _), (6, _), (7, _), (44, _), (45, _)] _
      have hE43 := hV39.then hV42
      have hE44 := hE40.then hV42
      have hB45 := hV42.blk0 hP
      have hB46 := hV42.blk0 hM
      have hO47 := hSe.evo0 hV42
      have hO48 := hTh.evo0 hV42
      refine cw_seq ?_
      refine cw_region ?_
      refine wl_val rfl (ex_lss rfl rfl) ?_
      refine wl_nil (nrm_then ?_)
      refine cw_seq ?_
      refine cw_if rfl (fun hc47 => ?_) (fun hc47 => ?_)
      · skip
        refine cw_skip (nrm_then ?_)
        refine cw_seq ?_
        refine cw_block ?_
        refine cw_seq ?_
        refine cw_region ?_
        have hk' : k < ls.length := by omega
        have hi := hlt ls[k] (List.getElem_mem _)
        have hTrk := rows_step hTr hE44 (fun y hy => .inl hy)
        obtain ⟨gt, q, egt, eta, hck, hnk0⟩ := row_at hO48 hTrk hk'
        have hnk := hnk0
        obtain ⟨bI, oI, vs1, ha1, hx1, -, hc1, hr1⟩ := e3 ls[k].1 hi
        refine wl_val rfl (ex_indexAddr (n := k) (by rw [eta]; rfl) rfl Try.elem112 (by omega)) ?_
        refine wl_val rfl (ex_loadA rfl Try.agg117 Try.size117 (vs := [iv ls[k].1, .pointer q]) rfl hck) ?_
        refine wl_alloc rfl Try.zero117 fun b49 w50 hB51 hs52 hw53 => ?_
        have hA54 := Apart.new (Lt.blk hB45) hs52
        have hA55 := Apart.new (Lt.blk hB46) hs52
        have hA56 := Apart.new (Lt.own hO47) hs52
        have hA57 := Apart.new (Lt.own hO48) hs52
        have hG58 := Ge.new hE43 hs52
        have hG59 := Ge.new hE44 hs52
        have hG60 := Ge.new hV42 hs52
        have hG61 := Ge.new (Evo.refl (bm :: sb :: tob.toList) wr41) hs52
        have hE62 := hE43.then hw53
        have hE63 := hE44.then hw53
        have hE64 := hV42.then hw53
        have hE65 := (Evo.refl (bm :: sb :: tob.toList) wr41).then hw53
        have hB66 := hw53.blk0 hB45
        have hB67 := hw53.blk0 hB46
        have hO68 := hO47.evo0 hw53
        have hO69 := hO48.evo0 hw53
        refine wl_storeBlk rfl rfl Try.size117 hB51 rfl rfl ⟨by first | rfl | assumption, by first | rfl | assumption, trivial⟩ fun w70 hB71 hw72 => ?_
        have hE73 := hE62.step hw72 hG58.mem1
        have hE74 := hE63.step hw72 hG59.mem1
        have hE75 := hE64.step hw72 hG60.mem1
        have hE76 := hE65.step hw72 hG61.mem1
        have hB77 := hw72.blk hB66 hA54.nmem1
        have hB78 := hw72.blk hB67 hA55.nmem1
        have hO79 := hO68.evo hw72 hA56.own1
        have hO80 := hO69.evo hw72 hA57.own1
        try simp only [List.setIfInBounds_toArray, List.set_cons_zero, List.set_cons_succ, Nat.reduceAdd, Nat.zero_add, Nat.add_zero] at hB71
        refine wl_nil (nrm_then ?_)
        refine cw_seq ?_
        refine cw_region ?_
        refine wl_val rfl (ex_fieldAddr rfl Try.fld25_0) ?_
        refine wl_val rfl (ex_load1 rfl Try.agg22 (cell_nth hB77 rfl)) ?_
        refine wl_val rfl (ex_fieldAddr rfl Try.fld117_0) ?_
        refine wl_val rfl (ex_load1 rfl Try.agg3 (cell_nth hB71 rfl)) ?_
        refine wl_val rfl (ex_indexAddr (n := ls[k].1) (by rw [ha1]; rfl) rfl Try.elem22 hi) ?_
        refine wl_val rfl (ex_fieldAddr rfl Try.fld29_0) ?_
        obtain ⟨hi1, rv1, hvs1, hr2⟩ := hr1
        subst hvs1
        refine wl_val rfl (ex_load1 rfl Try.agg3 ((hc1.evo hE73 (by simp)) 0 _ rfl)) ?_
        refine wl_val rfl (ex_eql rfl rfl) ?_
        refine wl_nil (nrm_then ?_)
        refine cw_if rfl (fun hc57 => ?_) (fun hc57 => ?_)
        · skip
          refine cw_seq ?_
          refine cw_region ?_
          refine wl_val rfl (ex_fieldAddr rfl Try.fld117_1) ?_
          refine wl_val rfl (ex_load1 rfl Try.agg86 (cell_nth hB71 rfl)) ?_
          refine wl_val rfl (ex_assign rfl) ?_
          refine wl_val rfl (ex_assign rfl) ?_
          refine wl_nil (nrm_then ?_)
          refine cw_ret (ret_block (ret_then (ret_then (ret_block (ret_then (ret_then (ret_scope (ret_block (ret_then (ret_block (ret_then (body_ret2 rfl rfl rfl ?_))))))))))))
          obtain ⟨W3, h3⟩ := hPk (some ls[k].2) WZ (.inl ⟨by omega, (first_found hk' hlt (fun j hj hjk => hno j hj hjk) (fun _ => hc57)).symm⟩)
          exact ⟨_, true, some ls[k].2, W3, rfl, h3, .inr ⟨_, rfl, rfl, hnk.step hE76 (fun y hy => by cases hy)⟩, hE73⟩
        · skip
          refine cw_skip (nrm_block (nrm_then ?_))
          refine cw_region ?_
          refine wl_val rfl (ex_add_i64 rfl rfl (by omega) (by omega)) ?_
          refine wl_val rfl (ex_move rfl) ?_
          refine wl_nil (nrm_then ?_)
          refine ⟨k + 1, ?_, ⟨rfl, trivial⟩, ⟨rfl, rfl, rfl, rfl, rfl, rfl, trivial⟩, hE75, ?_⟩
          · omega
          · skip
            refine ⟨by omega, fun j hj hjk => ?_⟩
            by_cases e : j < k
            · exact hno j hj e
            · obtain rfl : j = k := by omega
              exact fun _ => hc57
      · skip
        refine cw_exit (ex_then (ex_then (ex_here (nrm_then ?_))))
        refine cw_seq ?_
        refine cw_region ?_
        refine wl_val rfl (ex_assign rfl) ?_
        refine wl_val rfl (ex_assign rfl) ?_
        refine wl_nil (nrm_then ?_)
        refine cw_ret (ret_then (ret_scope (ret_block (ret_then (ret_block (ret_then (body_ret2 rfl rfl rfl ?_)))))))
        obtain ⟨W3, h3⟩ := hPk none WZ (.inl ⟨by omega, (first_not hlt (fun j hj => hno j hj (by omega))).symm⟩)
        exact ⟨_, false, none, W3, rfl, h3, .inl ⟨rfl, rfl⟩, hE43⟩
    · skip
      refine cw_skip (nrm_then ?_)
      refine cw_seq ?_
      refine cw_region ?_
      refine wl_val rfl (ex_move rfl) ?_
      refine wl_val rfl (ex_move rfl) ?_
      refine wl_call1 (vs := [_, _]) Try.goes64 rfl (next_ok s a ha (by omega)) rfl ?_
      rintro _ w81 ⟨rfl, hw82⟩
      have hE83 := hV39.then hw82
      have hE84 := hE40.then hw82
      have hB85 := hw82.blk0 hP
      have hB86 := hw82.blk0 hM
      have hO87 := hSe.evo0 hw82
      have hO88 := hTh.evo0 hw82
      refine wl_val rfl (ex_move rfl) ?_
      refine wl_val rfl (ex_extract rfl rfl) ?_
      refine wl_val rfl (ex_extract rfl rfl) ?_
      refine wl_val rfl (ex_assign rfl) ?_
      refine wl_val rfl (ex_assign rfl) ?_
      refine wl_nil (nrm_then ?_)
      refine cw_seq ?_
      refine cw_seq ?_
      refine cw_region ?_
      refine wl_val rfl (ex_move rfl) ?_
      refine wl_val rfl (ex_eql rfl rfl) ?_
      refine wl_nil (nrm_then ?_)
      refine cw_if rfl (fun hc68 => ?_) (fun hc68 => ?_)
      · skip
        refine cw_seq ?_
        refine cw_region ?_
        refine wl_val rfl (ex_assign rfl) ?_
        refine wl_val rfl (ex_assign rfl) ?_
        refine wl_nil (nrm_then ?_)
        refine cw_ret (ret_then (ret_scope (ret_block (ret_then (ret_block (ret_then (body_ret2 rfl rfl rfl ?_)))))))
        obtain ⟨W3, h3⟩ := hPk none WZ (.inr (.inl ⟨by omega, nxt_none (by omega), rfl⟩))
        exact ⟨_, false, none, W3, rfl, h3, .inl ⟨rfl, rfl⟩, hE83⟩
      · skip
        refine cw_skip (nrm_then ?_)
        refine cw_seq ?_
        refine cw_region ?_
        refine wl_val rfl (ex_move rfl) ?_
        refine wl_val rfl (ex_move rfl) ?_
        refine wl_val rfl (ex_add_i64 rfl rfl (by omega) (by omega)) ?_
        rw [show ((a : Nat) : Int) + (((nextR s a).2 : Nat) : Int) = ((a + (nextR s a).2 : Nat) : Int) from by omega]
        refine wl_val rfl (ex_assign rfl) ?_
        refine wl_nil (nrm_then ?_)
        refine cw_seq ?_
        refine cw_region ?_
        refine wl_val rfl (ex_move rfl) ?_
        refine wl_val rfl (ex_nilCheck rfl) ?_
        refine wl_val rfl (ex_fieldAddr rfl Try.fld114_3) ?_
        refine wl_val rfl (ex_load1 rfl Try.agg112 (cell_nth hB86 rfl)) ?_
        refine wl_val rfl (ex_assign rfl) ?_
        refine wl_nil (nrm_then ?_)
        refine cw_seq ?_
        refine cw_region ?_
        refine wl_val rfl (ex_move rfl) ?_
        refine wl_val rfl (ex_nilCheck rfl) ?_
        refine wl_val rfl (ex_fieldAddr rfl Try.fld114_3) ?_
        refine wl_store1 rfl rfl (by first | rfl | assumption) Try.size112 hB86 rfl fun w89 hB90 hw91 => ?_
        have hE92 := hE83.step hw91 hgm.mem1
        have hE93 := hE84.step hw91 (fun y hy => .inl (by simp at hy; simp [hy]))
        have hB94 := hw91.blk hB85 hpm.nmem1
        have hO95 := hO87.evo hw91 hms.symm.own1
        have hO96 := hO88.evo hw91 hmt.symm.own1
        try simp only [List.setIfInBounds_toArray, List.set_cons_zero, List.set_cons_succ, Nat.reduceAdd, Nat.zero_add, Nat.add_zero] at hB90
        refine wl_nil (nrm_then ?_)
        refine cw_seq ?_
        refine cw_label (nrm_then ?_)
        refine cw_seq ?_
        refine cw_region ?_
        refine wl_val rfl (ex_move rfl) ?_
        refine wl_val rfl (ex_len_slice rfl Try.underlying112 rfl) ?_
        refine wl_val rfl (ex_move rfl) ?_
        refine wl_nil (nrm_then ?_)
        refine cw_block ?_
        refine cw_loop (α := SH) (⟨0, sv, [], [], none, 0, 0, none⟩) (fun x => [(81, .int .i64 (x.k : Nat))]) [(1, _), (2, _), (6, _), (7, _), (10, _), (79, _), (80, _)] (fun x wr => Evo [] w wr ∧ (x.k ≤ tn ∧ wr.heap[bP]? = some (.cells #[.slice a3 p.insts.length c3, iv p.start, iv p.groups, .slice a4 p.names.length c4] 25 (0, 0)) ∧ wr.heap[bm]? = some (.cells #[.slice a3 p.insts.length c3, iv p.start, iv p.groups, .slice a4 p.names.length c4, .string s, .slice (some ⟨sb, 0, none⟩) p.insts.length p.insts.length, .slice x.ua x.un x.uc] 114 (0, 0)) ∧ OwnS wr 3 1 (some ⟨sb, 0, none⟩) p.insts.length p.insts.length (svc p.insts.length x.sw) (some sb) ∧ OwnS wr 117 2 x.ua x.un x.uc x.ur.flatten x.uob ∧ RowsOk 2 RTh (bm :: sb :: x.uob.toList) wr x.ur x.ms ∧ OwnS wr 117 2 ta tn tc tr.flatten tob ∧ RowsOk 2 RTh (bm :: sb :: x.uob.toList) wr tr ls ∧ (∀ j, x.sw j ≤ a + (nextR s a).2 + 1) ∧ x.un + us p.insts.length (a + (nextR s a).2) x.sw ≤ p.insts.length ∧ Eps (mvOf p s) (a + (nextR s a).2) (nexts (mvOf p s) a (ls.take x.k)) (seenV (a + (nextR s a).2) sv) x.ms (seenV (a + (nextR s a).2) x.sw) ∧ Apart (some bP) x.uob ∧ Apart (some bm) x.uob ∧ Apart (some sb) x.uob ∧ Apart tob x.uob ∧ Ge w x.uob)) (fun x => tn - x.k) ⟨rfl, trivial⟩ ⟨rfl, rfl, rfl, rfl, rfl, rfl, rfl, trivial⟩ ⟨hE92, ⟨Nat.zero_le _, hB94, hB90, hO95, OwnS.nil _ _ _, RowsOk.nil _ _ _ _, hO96, rows_step hTr hE93 (fun y hy => .inl (in_none y hy)), fun j => Nat.le_trans (hsv j) (by omega), (show 0 + us p.insts.length (a + (nextR s a).2) sv ≤ _ by have := us_le p.insts.length (a + (nextR s a).2) sv; omega), .nil, Apart.nil _, Apart.nil _, Apart.nil _, Apart.nil _, Ge.nil _⟩⟩ ?_
        rintro ⟨k, sw, ms, ur, ua, un, uc, uob⟩ wr97 ⟨hV98, ⟨hk, hP, hM, hSe, hU, hUr, hTh, hTr, hsw, hun, hep, hpu, hmu, hsu, htu, hgu⟩⟩
        show CW _ _ _ _ [(81, .int .i64 (k : Nat)), (1, _), (2, _), (6, _), (7, _), (10, _), (79, _), (80, _)] _
        try dsimp only at hk
        try dsimp only at hP
        try dsimp only at hM
        try dsimp only at hSe
        try dsimp only at hU
        try dsimp only at hUr
        try dsimp only at hTh
        try dsimp only at hTr
        try dsimp only at hsw
        try dsimp only at hun
        try dsimp only at hep
        try dsimp only at hpu
        try dsimp only at hmu
        try dsimp only at hsu
        try dsimp only at htu
        try dsimp only at hgu
        have hE99 := Evo.refl ((bm :: sb :: uob.toList)) wr97
        refine cw_seq ?_
        refine cw_region ?_
        refine wl_val rfl (ex_lss rfl rfl) ?_
        refine wl_nil (nrm_then ?_)
        refine cw_seq ?_
        refine cw_if rfl (fun hc82 => ?_) (fun hc82 => ?_)
        · skip
          refine cw_skip (nrm_then ?_)
          refine cw_seq ?_
          refine cw_block ?_
          refine cw_seq ?_
          refine cw_region ?_
          have hk' : k < ls.length := by omega
          have hi := hlt ls[k] (List.getElem_mem _)
          have hTrk := rows_step hTr hE99 (fun y hy => .inl hy)
          obtain ⟨gt, q, egt, eta, hck, hnk0⟩ := row_at hTh hTrk hk'
          have hnk := hnk0
          obtain ⟨bI, oI, vs1, ha1, hx1, -, hc1, hr1⟩ := e3 ls[k].1 hi
          refine wl_val rfl (ex_indexAddr (n := k) (by rw [eta]; rfl) rfl Try.elem112 (by omega)) ?_
          refine wl_val rfl (ex_loadA rfl Try.agg117 Try.size117 (vs := [iv ls[k].1, .pointer q]) rfl hck) ?_
          refine wl_alloc rfl Try.zero117 fun b100 w101 hB102 hs103 hw104 => ?_
          have hA105 := Apart.new (Lt.blk hP) hs103
          have hA106 := Apart.new (Lt.blk hM) hs103
          have hA107 := Apart.new (Lt.own hSe) hs103
          have hA108 := Apart.new (Lt.own hTh) hs103
          have hA109 := Apart.new (Lt.own hU) hs103
          have hG110 := Ge.new hV98 hs103
          have hG111 := Ge.new hE99 hs103
          have hG112 := Ge.new (Evo.refl (bm :: sb :: uob.toList) wr97) hs103
          have hE113 := hV98.then hw104
          have hE114 := hE99.then hw104
          have hE115 := (Evo.refl (bm :: sb :: uob.toList) wr97).then hw104
          have hB116 := hw104.blk0 hP
          have hB117 := hw104.blk0 hM
          have hO118 := hSe.evo0 hw104
          have hO119 := hTh.evo0 hw104
          have hO120 := hU.evo0 hw104
          refine wl_storeBlk rfl rfl Try.size117 hB102 rfl rfl ⟨by first | rfl | assumption, by first | rfl | assumption, trivial⟩ fun w121 hB122 hw123 => ?_
          have hE124 := hE113.step hw123 hG110.mem1
          have hE125 := hE114.step hw123 hG111.mem1
          have hE126 := hE115.step hw123 hG112.mem1
          have hB127 := hw123.blk hB116 hA105.nmem1
          have hB128 := hw123.blk hB117 hA106.nmem1
          have hO129 := hO118.evo hw123 hA107.own1
          have hO130 := hO119.evo hw123 hA108.own1
          have hO131 := hO120.evo hw123 hA109.own1
          try simp only [List.setIfInBounds_toArray, List.set_cons_zero, List.set_cons_succ, Nat.reduceAdd, Nat.zero_add, Nat.add_zero] at hB122
          refine wl_nil (nrm_then ?_)
          refine cw_seq ?_
          refine cw_region ?_
          refine wl_val rfl (ex_fieldAddr rfl Try.fld25_0) ?_
          refine wl_val rfl (ex_load1 rfl Try.agg22 (cell_nth hB127 rfl)) ?_
          refine wl_val rfl (ex_fieldAddr rfl Try.fld117_0) ?_
          refine wl_val rfl (ex_load1 rfl Try.agg3 (cell_nth hB122 rfl)) ?_
          refine wl_val rfl (ex_indexAddr (n := ls[k].1) (by rw [ha1]; rfl) rfl Try.elem22 hi) ?_
          obtain ⟨hi1, rv1, hvs1, hr2⟩ := hr1
          subst hvs1
          have hcc := hc1
          have hsi := hsp.2 ls[k].1 hi hi
          obtain ⟨n1, n2, n3, n4, n5, n6, n7, n8, n9, n10⟩ := hsi.1
          obtain ⟨ci, hci⟩ : ∃ c, c = p.insts[ls[k].1] := ⟨_, rfl⟩
          rw [← hci] at hi1 hr2 n1 n2 n3 n4 n5 n6 n7 n8 n9 n10 hcc
          have hcl := hi1.len
          obtain ⟨aR, cR, rfl, hlR, eR⟩ := hr2
          refine wl_val rfl (ex_loadA rfl Try.agg29 Try.size29 (vs := [_, _, _, _, _]) rfl (hcc.evo hE124 (by simp))) ?_
          refine wl_alloc rfl Try.zero29 fun b132 w133 hB134 hs135 hw136 => ?_
          have hA137 := Apart.new (Lt.blk hB127) hs135
          have hA138 := Apart.new (Lt.blk hB128) hs135
          have hA139 := Apart.new (Lt.own hO129) hs135
          have hA140 := Apart.new (Lt.own hO130) hs135
          have hA141 := Apart.new (Lt.own hO131) hs135
          have hA142 := Apart.new (Lt.blk hB122) hs135
          have hG143 := Ge.new hE124 hs135
          have hG144 := Ge.new hE125 hs135
          have hG145 := Ge.new hE126 hs135
          have hE146 := hE124.then hw136
          have hE147 := hE125.then hw136
          have hE148 := hE126.then hw136
          have hB149 := hw136.blk0 hB127
          have hB150 := hw136.blk0 hB128
          have hO151 := hO129.evo0 hw136
          have hO152 := hO130.evo0 hw136
          have hO153 := hO131.evo0 hw136
          have hB154 := hw136.blk0 hB122
          refine wl_storeBlk rfl rfl Try.size29 hB134 rfl rfl ⟨by first | rfl | assumption, by first | rfl | assumption, by first | rfl | assumption, by first | rfl | assumption, by first | rfl | assumption, trivial⟩ fun w155 hB156 hw157 => ?_
          have hE158 := hE146.step hw157 hG143.mem1
          have hE159 := hE147.step hw157 hG144.mem1
          have hE160 := hE148.step hw157 hG145.mem1
          have hB161 := hw157.blk hB149 hA137.nmem1
          have hB162 := hw157.blk hB150 hA138.nmem1
          have hO163 := hO151.evo hw157 hA139.own1
          have hO164 := hO152.evo hw157 hA140.own1
          have hO165 := hO153.evo hw157 hA141.own1
          have hB166 := hw157.blk hB154 hA142.nmem1
          try simp only [List.setIfInBounds_toArray, List.set_cons_zero, List.set_cons_succ, Nat.reduceAdd, Nat.zero_add, Nat.add_zero] at hB156
          refine wl_nil (nrm_then ?_)
          refine cw_seq ?_
          refine cw_seq ?_
          refine cw_region ?_
          refine wl_val rfl (ex_fieldAddr rfl Try.fld29_0) ?_
          refine wl_val rfl (ex_load1 rfl Try.agg3 (cell_nth hB156 rfl)) ?_
          refine wl_val rfl (ex_neq rfl rfl) ?_
          refine wl_nil (nrm_then ?_)
          refine cw_if rfl (fun hc93 => ?_) (fun hc93 => ?_)
          · skip
            refine cw_exit (ex_then (ex_here (nrm_then ?_)))
            refine cw_region ?_
            refine wl_val rfl (ex_add_i64 rfl rfl (by omega) (by omega)) ?_
            refine wl_val rfl (ex_move rfl) ?_
            refine wl_nil (nrm_then ?_)
            refine ⟨⟨k + 1, sw, ms, ur, ua, un, uc, uob⟩, ?_, ⟨rfl, trivial⟩, ⟨rfl, rfl, rfl, rfl, rfl, rfl, rfl, trivial⟩, hE158, ?_⟩
            · (try dsimp only); omega
            · skip
              try dsimp only
              have hTr3 := rows_step hTr hE159 (fun y hy => .inl hy)
              have hUr3 := rows_step hUr hE159 (fun y hy => .inl hy)
              refine ⟨by omega, hB161, hB162, hO163, hO165, hUr3, hO164, hTr3, hsw, hun, by rw [nexts_step hk', nexts_none hi (fun h => hc93 (by rw [hci]; exact h.1)), List.append_nil]; exact hep, hpu, hmu, hsu, htu, hgu⟩
          · skip
            refine cw_skip (nrm_then ?_)
            refine cw_seq ?_
            refine cw_region ?_
            refine wl_val rfl (ex_fieldAddr rfl Try.fld29_4) ?_
            refine wl_val rfl (ex_load1 rfl Try.agg27 (cell_nth hB156 rfl)) ?_
            refine wl_val rfl (ex_len_slice rfl Try.underlying27 rfl) ?_
            refine wl_val rfl (ex_move rfl) ?_
            refine wl_nil (nrm_then ?_)
            refine cw_block ?_
            refine cw_loop (α := Nat) (0) (fun j => [(97, .int .i64 (j : Nat))]) [(1, _), (2, _), (6, _), (7, _), (10, _), (14, _), (15, _), (79, _), (80, _), (81, _), (95, _), (96, _)] (fun j wr => Evo [] w155 wr ∧ (j ≤ ci.rs.length ∧ ∀ i (h : i < ci.rs.length), i < j → ¬ (ci.rs[i].1 ≤ (nextR s a).1 ∧ (nextR s a).1 ≤ ci.rs[i].2))) (fun j => ci.rs.length - j) ⟨rfl, trivial⟩ ⟨rfl, rfl, rfl, rfl, rfl, rfl, rfl, rfl, rfl, rfl, rfl, rfl, trivial⟩ ⟨Evo.refl _ _, ⟨Nat.zero_le _, fun i _ h => by omega⟩⟩ ?_
            rintro j wr167 ⟨hV168, ⟨hj, hnr⟩⟩
            show CW _ _ _ _ [(97, _), (1, _), (2, _), (6, _), (7, _), (10, _), (14, _), (15, _), (79, _), (80, _), (81, _), (95, _), (96, _)] _
            have hE169 := hE158.then hV168
            have hE170 := hE159.then hV168
            have hE171 := hE160.then hV168
            have hB172 := hV168.blk0 hB161
            have hB173 := hV168.blk0 hB162
            have hO174 := hO163.evo0 hV168
            have hO175 := hO164.evo0 hV168
            have hO176 := hO165.evo0 hV168
            have hB177 := hV168.blk0 hB166
            have hB178 := hV168.blk0 hB156
            refine cw_seq ?_
            refine cw_region ?_
            refine wl_val rfl (ex_lss rfl rfl) ?_
            refine wl_nil (nrm_then ?_)
            refine cw_seq ?_
            refine cw_if rfl (fun hc98 => ?_) (fun hc98 => ?_)
            · skip
              refine cw_skip (nrm_then ?_)
              refine cw_seq ?_
              refine cw_block ?_
              refine cw_seq ?_
              refine cw_region ?_
              have hj' : j < ci.rs.length := by omega
              obtain ⟨b3, o3, vs3, ha3, -, -, hc3, hr3⟩ := eR j hj'
              cases hr3
              refine wl_val rfl (ex_indexAddr (n := j) (by rw [ha3]; rfl) rfl Try.elem27 hj') ?_
              refine wl_val rfl (ex_loadA rfl Try.agg66 Try.size66 (vs := [_, _]) rfl (hc3.evo hE169 (by simp))) ?_
              refine wl_alloc rfl Try.zero66 fun b179 w180 hB181 hs182 hw183 => ?_
              have hA184 := Apart.new (Lt.blk hB172) hs182
              have hA185 := Apart.new (Lt.blk hB173) hs182
              have hA186 := Apart.new (Lt.own hO174) hs182
              have hA187 := Apart.new (Lt.own hO175) hs182
              have hA188 := Apart.new (Lt.own hO176) hs182
              have hA189 := Apart.new (Lt.blk hB177) hs182
              have hA190 := Apart.new (Lt.blk hB178) hs182
              have hG191 := Ge.new hE169 hs182
              have hG192 := Ge.new hE170 hs182
              have hG193 := Ge.new hE171 hs182
              have hG194 := Ge.new hV168 hs182
              have hE195 := hE169.then hw183
              have hE196 := hE170.then hw183
              have hE197 := hE171.then hw183
              have hE198 := hV168.then hw183
              have hB199 := hw183.blk0 hB172
              have hB200 := hw183.blk0 hB173
              have hO201 := hO174.evo0 hw183
              have hO202 := hO175.evo0 hw183
              have hO203 := hO176.evo0 hw183
              have hB204 := hw183.blk0 hB177
              have hB205 := hw183.blk0 hB178
              refine wl_storeBlk rfl rfl Try.size66 hB181 rfl rfl ⟨by first | rfl | assumption, by first | rfl | assumption, trivial⟩ fun w206 hB207 hw208 => ?_
              have hE209 := hE195.step hw208 hG191.mem1
              have hE210 := hE196.step hw208 hG192.mem1
              have hE211 := hE197.step hw208 hG193.mem1
              have hE212 := hE198.step hw208 hG194.mem1
              have hB213 := hw208.blk hB199 hA184.nmem1
              have hB214 := hw208.blk hB200 hA185.nmem1
              have hO215 := hO201.evo hw208 hA186.own1
              have hO216 := hO202.evo hw208 hA187.own1
              have hO217 := hO203.evo hw208 hA188.own1
              have hB218 := hw208.blk hB204 hA189.nmem1
              have hB219 := hw208.blk hB205 hA190.nmem1
              try simp only [List.setIfInBounds_toArray, List.set_cons_zero, List.set_cons_succ, Nat.reduceAdd, Nat.zero_add, Nat.add_zero] at hB207
              refine wl_nil (nrm_then ?_)
              refine cw_seq ?_
              refine cw_region ?_
              refine wl_val rfl (ex_fieldAddr rfl Try.fld66_0) ?_
              refine wl_val rfl (ex_load1 rfl Try.agg21 (cell_nth hB207 rfl)) ?_
              refine wl_val rfl (ex_move rfl) ?_
              refine wl_val rfl (ex_leq rfl rfl) ?_
              refine wl_val rfl (ex_move rfl) ?_
              refine wl_split (t := 105) rfl (fun hs105 => ?_) (fun hs105 => ?_)
              · skip
                refine wl_go rfl rfl rfl rfl ?_
                refine wl_val rfl (ex_move rfl) ?_
                refine wl_go rfl rfl rfl rfl ?_
                refine wl_val rfl (ex_fieldAddr rfl Try.fld66_1) ?_
                refine wl_go rfl rfl rfl rfl ?_
                refine wl_val rfl (ex_load1 rfl Try.agg21 (cell_nth hB207 rfl)) ?_
                refine wl_go rfl rfl rfl rfl ?_
                refine wl_val rfl (ex_leq rfl rfl) ?_
                refine wl_val rfl (ex_pick_t rfl rfl) ?_
                refine wl_nil (nrm_then ?_)
                refine cw_if rfl (fun hc110 => ?_) (fun hc110 => ?_)
                · skip
                  have hopc : ci.op = 2 := by omega
                  have hop2 : p.insts[ls[k].1].op = 2 := by rw [← hci]; exact hopc
                  have hout : 0 ≤ ci.out ∧ ci.out < p.insts.length := n4 (by omega)
                  have hins : Inside (nextR s a).1 p.insts[ls[k].1].rs := by rw [← hci]; exact ⟨ci.rs[j], List.getElem_mem _, by omega, by omega⟩
                  refine cw_seq ?_
                  refine cw_region ?_
                  refine wl_val rfl (ex_move rfl) ?_
                  refine wl_val rfl (ex_fieldAddr rfl Try.fld29_1) ?_
                  refine wl_val rfl (ex_load1 rfl Try.agg3 (cell_nth hB219 rfl)) ?_
                  rw [show (Value.int .i64 ci.out) = iv ((ci.out.toNat : Nat) : Int) from by rw [Int.toNat_of_nonneg hout.1]]
                  refine wl_val rfl (ex_fieldAddr rfl Try.fld117_1) ?_
                  refine wl_val rfl (ex_load1 rfl Try.agg86 (cell_nth hB218 rfl)) ?_
                  refine wl_val rfl (ex_build (vs := [(0, _), (1, _)]) Try.build117 rfl (cells := [_, _]) rfl) ?_
                  refine wl_val rfl (ex_move rfl) ?_
                  refine wl_call1 (vs := [_, _, _]) Try.goes63 rfl (follow_ok (tob0 := uob) (tr0 := ur) (L0 := ms) (a := a + (nextR s a).2) (i0 := ci.out.toNat) (t0 := ls[k].2) (sv0 := sw) (nv0 := .pointer q) (hI2 uob hgu hE209) hsp hB214 hO215 hO217 (rows_step hUr hE210 (fun y hy => .inl hy)) (hnk.step hE211 (fun y hy => .inl hy)) (by omega) (by omega) hs hsw hun hms hmu hsu) rfl ?_
                  rintro _ w220 ⟨sw2, ua2, un2, uc2, ur2, uob2, L2, rfl, heps2, hM2, hSe2, hU2, hUr2, hsw2, hun2, hmu2, hsu2, huo2, hw221⟩
                  have hpre2 := hE210
                  have hgu2 : Ge w uob2 := by rcases huo2 with h | h; { subst h; exact hgu }; { exact Ge.fresh hE209 h }
                  have hpu2 : Apart (some bP) uob2 := by rcases huo2 with h | h; { subst h; exact hpu }; { exact Apart.fresh (Lt.blk hB213) h }
                  have htu2 : Apart tob uob2 := by rcases huo2 with h | h; { subst h; exact htu }; { exact Apart.fresh (Lt.own hO216) h }
                  have hE222 := hE209.step hw221 (ge3 hgm hgs hgu)
                  have hE223 := hE210.step hw221 (fun y hy => .inl hy)
                  have hE224 := hE211.step hw221 (fun y hy => .inl hy)
                  have hB225 := hw221.blk hB213 (nmk hpm hps hpu)
                  have hB226 := hO216.evo hw221 (nmo hmt.symm hst.symm htu)
                  have hB227 := hw221.blk hB218 (nmk hA106.symm hA107.symm hA109.symm)
                  have hB228 := hw221.blk hB219 (nmk hA138.symm hA139.symm hA141.symm)
                  refine wl_nil (nrm_then ?_)
                  refine cw_exit (ex_past rfl (ex_then (ex_then (ex_past rfl (ex_here (nrm_then ?_))))))
                  refine cw_region ?_
                  refine wl_val rfl (ex_add_i64 rfl rfl (by omega) (by omega)) ?_
                  refine wl_val rfl (ex_move rfl) ?_
                  refine wl_nil (nrm_then ?_)
                  refine ⟨⟨k + 1, sw2, ms ++ L2, ur2, ua2, un2, uc2, uob2⟩, ?_, ⟨rfl, trivial⟩, ⟨rfl, rfl, rfl, rfl, rfl, rfl, rfl, trivial⟩, hE222, ?_⟩
                  · (try dsimp only); omega
                  · skip
                    try dsimp only
                    have hxx := in3 (X := bm :: sb :: uob.toList) (bm := bm) (sb := sb) (t := uob) (t' := uob2) hpre2 (by simp) (by simp) (fun y hy => List.mem_cons_of_mem _ (List.mem_cons_of_mem _ hy)) huo2
                    have hTr3 := rows_step hTr hE223 hxx
                    refine ⟨by omega, hB225, hM2, hSe2, hU2, hUr2, hB226, hTr3, hsw2, hun2, by rw [nexts_step hk', nexts_some hi hop2 hins, ← hci]; exact hep.app heps2, hpu2, hmu2, hsu2, htu2, hgu2⟩
                · skip
                  refine cw_skip (nrm_block (nrm_then ?_))
                  refine cw_region ?_
                  refine wl_val rfl (ex_add_i64 rfl rfl (by omega) (by omega)) ?_
                  refine wl_val rfl (ex_move rfl) ?_
                  refine wl_nil (nrm_then ?_)
                  refine ⟨j + 1, ?_, ⟨rfl, trivial⟩, ⟨rfl, rfl, rfl, rfl, rfl, rfl, rfl, rfl, rfl, rfl, rfl, rfl, trivial⟩, hE212, ?_⟩
                  · omega
                  · skip
                    refine ⟨by omega, fun i hi2 hik => ?_⟩
                    by_cases e : i < j
                    · exact hnr i hi2 e
                    · obtain rfl : i = j := by omega
                      omega
              · skip
                refine wl_no rfl rfl rfl rfl rfl rfl ?_
                refine wl_no rfl rfl rfl rfl rfl rfl ?_
                refine wl_no rfl rfl rfl rfl rfl rfl ?_
                refine wl_no rfl rfl rfl rfl rfl rfl ?_
                refine wl_val rfl (ex_pick_f rfl rfl) ?_
                refine wl_nil (nrm_then ?_)
                refine cw_false rfl ?_
                refine cw_skip (nrm_block (nrm_then ?_))
                refine cw_region ?_
                refine wl_val rfl (ex_add_i64 rfl rfl (by omega) (by omega)) ?_
                refine wl_val rfl (ex_move rfl) ?_
                refine wl_nil (nrm_then ?_)
                refine ⟨j + 1, ?_, ⟨rfl, trivial⟩, ⟨rfl, rfl, rfl, rfl, rfl, rfl, rfl, rfl, rfl, rfl, rfl, rfl, trivial⟩, hE212, ?_⟩
                · omega
                · skip
                  refine ⟨by omega, fun i hi2 hik => ?_⟩
                  by_cases e : i < j
                  · exact hnr i hi2 e
                  · obtain rfl : i = j := by omega
                    omega
            · skip
              refine cw_exit (ex_then (ex_then (ex_here (nrm_block (nrm_then ?_)))))
              refine cw_region ?_
              refine wl_val rfl (ex_add_i64 rfl rfl (by omega) (by omega)) ?_
              refine wl_val rfl (ex_move rfl) ?_
              refine wl_nil (nrm_then ?_)
              refine ⟨⟨k + 1, sw, ms, ur, ua, un, uc, uob⟩, ?_, ⟨rfl, trivial⟩, ⟨rfl, rfl, rfl, rfl, rfl, rfl, rfl, trivial⟩, hE169, ?_⟩
              · (try dsimp only); omega
              · skip
                try dsimp only
                have hTr3 := rows_step hTr hE170 (fun y hy => .inl hy)
                have hUr3 := rows_step hUr hE170 (fun y hy => .inl hy)
                refine ⟨by omega, hB172, hB173, hO174, hO176, hUr3, hO175, hTr3, hsw, hun, by rw [nexts_step hk', nexts_none hi (fun h => by rw [← hci] at h; obtain ⟨d, hd, h2⟩ := h.2; obtain ⟨j, hj, rfl⟩ := List.getElem_of_mem hd; exact hnr j hj (by omega) h2), List.append_nil]; exact hep, hpu, hmu, hsu, htu, hgu⟩
        · skip
          refine cw_exit (ex_then (ex_then (ex_here (nrm_scope (nrm_block (nrm_then ?_))))))
          refine ⟨⟨a + (nextR s a).2, sw, ms, ur, ua, un, uc, uob⟩, ?_, ⟨rfl, trivial⟩, ⟨rfl, rfl, rfl, trivial⟩, hV98, ?_⟩
          · (try dsimp only); omega
          · skip
            try dsimp only
            have hkn : k = ls.length := by omega
            have hep2 : Eps (mvOf p s) (a + (nextR s a).2) (nexts (mvOf p s) a ls) (fun _ => false) ms (seenV (a + (nextR s a).2) sw) := by have h := hep; rw [hkn, List.take_length, seen_none hsv (by omega)] at h; exact h
            refine ⟨by omega, hP, hM, hSe, hU, hUr, hsw, fun d hd => eps_leaf hep2 d hd, by omega, fun r W' h => ?_, hpu, hmu, hsu, hgu⟩
            obtain ⟨W3, h3⟩ := pk_of_eps hep2 h
            exact hPk r W3 (.inr (.inr ⟨by omega, _, nxt_some (by omega), h3⟩))
  · skip
    refine cw_exit (ex_then (ex_then (ex_here (nrm_then ?_))))
    refine cw_seq ?_
    refine cw_region ?_
    refine wl_val rfl (ex_assign rfl) ?_
    refine wl_val rfl (ex_assign rfl) ?_
    refine wl_nil (nrm_then ?_)
    refine cw_ret (body_ret2 rfl rfl rfl ?_)
    have hz : ls = [] := List.eq_nil_of_length_eq_zero (by omega)
    subst hz
    obtain ⟨W2, h2⟩ := pkL_nil p s a
    obtain ⟨W3, h3⟩ := hPk none W2 h2
    exact ⟨_, false, none, W3, rfl, h3, .inl ⟨rfl, rfl⟩, hV39⟩

end Go.Proofs.Ytopjnoblhleimaa
