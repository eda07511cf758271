/- The walks of missing, its closure, Without's closure, IndexFunc and DeleteFunc. -/
import Derived.Test.YtebghjbfdpeipaaIe
namespace Go.Proofs.Ytebghjbfdpeipaa
open Go.Proofs
open Go.W
attribute [local irreducible] Decidable.decide
set_option linter.unusedSimpArgs false
set_option linter.unusedVariables false
theorem Try.agg22 : aggB Try.prog 22 = some false := by kernel_rfl
theorem Try.agg3 : aggB Try.prog 3 = some false := by kernel_rfl
theorem Try.agg41 : aggB Try.prog 41 = some false := by kernel_rfl
theorem Try.elem22 : elemB Try.prog 22 = some 1 := by kernel_rfl
theorem Try.goes18 : Goes Try.prog 18 := ⟨_, Try.func18, by kernel_rfl, by kernel_rfl⟩
theorem Try.goes33 : Goes Try.prog 33 := ⟨_, Try.func33, by kernel_rfl, by kernel_rfl⟩
theorem Try.goes37 : Goes Try.prog 37 := ⟨_, Try.func37, by kernel_rfl, by kernel_rfl⟩
theorem Try.goes38 : Goes Try.prog 38 := ⟨_, Try.func38, by kernel_rfl, by kernel_rfl⟩
theorem Try.size22 : sizeB Try.prog 22 = some 1 := by kernel_rfl
theorem Try.size3 : sizeB Try.prog 3 = some 1 := by kernel_rfl
theorem Try.zero3 : zeroB Try.prog 3 = some #[.int .i64 0] := by kernel_rfl

theorem missing1_ok {w : World} {bs n c : Nat} {a : Option Addr} {ob : Option Nat} {r : List Int} (hB : w.heap[bs]? = some (.cells #[.slice a n c] 22 (0, 0))) (hO : OwnS w 3 1 a n c (r.map iv) ob) (hs : SR r) (hl : n ≤ 1000000000) (x : Int) :
    Calls Try.prog 37 #[.int .i64 x, .pointer (some ⟨bs, 0, none⟩)] w (Ret fun v w' => v = .bool (decide (¬ x ∈ r)) ∧ Evo [] w w') := by
  refine calls_of_cw (N := 14) Try.func37 rfl rfl rfl ?_
  refine cw_seq ?_
  refine cw_region ?_
  refine wl_val rfl (ex_assign rfl) ?_
  refine wl_nil (nrm_then ?_)
  refine cw_seq ?_
  refine cw_region ?_
  refine wl_val rfl (ex_load1 rfl Try.agg22 (cell_nth hB rfl)) ?_
  refine wl_val rfl (ex_move rfl) ?_
  refine wl_call1 (vs := [_, _]) Try.goes38 rfl (search_own hO hl hs.le x) rfl ?_
  rintro _ w1 ⟨⟨k, rfl⟩, hw2⟩
  have hE3 := (Evo.refl [] w).then hw2
  have hB4 := hw2.blk0 hB
  have hO5 := hO.evo0 hw2
  refine wl_val rfl (ex_move rfl) ?_
  refine wl_val rfl (ex_extract rfl rfl) ?_
  refine wl_val rfl (ex_extract rfl rfl) ?_
  refine wl_val rfl (ex_assign rfl) ?_
  refine wl_val rfl (ex_assign rfl) ?_
  refine wl_nil (nrm_then ?_)
  refine cw_seq ?_
  refine cw_region ?_
  refine wl_val rfl (ex_move rfl) ?_
  refine wl_val rfl (ex_not rfl) ?_
  refine wl_val rfl (ex_assign rfl) ?_
  refine wl_nil (nrm_then ?_)
  refine cw_ret (body_ret1 rfl rfl ?_)
  exact ⟨rfl, hE3⟩

theorem missing_ok {X : List Nat} {w : World} {v : Value} {l : List Int} (h : RSl 1 RZ X w v l) (hl : l.length ≤ 100000000) :
    Calls Try.prog 19 #[v] w (Ret fun v' w' => ∃ cap K, v' = .func (.func 37) #[] (List.toArray cap) ∧ Asks 37 cap K w' (fun x => decide (¬ x ∈ l)) ∧ (∀ k, k ∈ K → w.heap.size ≤ k ∧ k < w'.heap.size) ∧ Evo [] w w') := by
  have h0 := h
  obtain ⟨va, vc, rfl, -, -⟩ := h
  refine calls_of_cw (N := 6) Try.func19 rfl rfl rfl ?_
  refine cw_seq ?_
  refine cw_region ?_
  refine wl_box1 rfl rfl rfl fun bs w1 hB2 hs3 hw4 => ?_
  have hG5 := Ge.new (Evo.refl [] w) hs3
  have hE6 := (Evo.refl [] w).then hw4
  refine wl_val rfl (ex_assign rfl) ?_
  refine wl_nil (nrm_then ?_)
  refine cw_seq ?_
  refine cw_region ?_
  refine wl_val rfl (ex_load1 rfl Try.agg22 (cell_nth hB2 rfl)) ?_
  refine wl_call1 (vs := [_]) Try.goes18 rfl (rising_ok (RSl.evo RZ.pers ((hE6).any X) h0) hl) rfl ?_
  rintro _ w7 ⟨r, a, c, ob, rfl, hO, hG, hSR, hmem, hle, hw8⟩
  have hA9 := Apart.fresh (Lt.blk hB2) hG
  have hG10 := Ge.fresh hE6 hG
  have hE11 := hE6.then hw8
  have hB12 := hw8.blk0 hB2
  refine wl_store1 rfl rfl (by first | rfl | assumption) Try.size22 hB12 rfl fun w13 hB14 hw15 => ?_
  have hE16 := hE11.step hw15 hG5.mem1
  have hO17 := hO.evo hw15 hA9.symm.own1
  refine wl_nil (nrm_then ?_)
  refine cw_seq ?_
  refine cw_region ?_
  refine wl_val rfl (ex_makeFunc (vs := [_]) rfl) ?_
  refine wl_val rfl (ex_assign rfl) ?_
  refine wl_nil (nrm_then ?_)
  refine cw_ret (body_ret1 rfl rfl ?_)
  have hgb : Ge w (some bs) := hG5
  have hgl : Ge w ob := hG10
  have hOL := hO17
  have hBs := hB14
  refine ⟨[.pointer (some ⟨bs, 0, none⟩)], bs :: ob.toList, rfl, fun X' W x he hk => ?_, fun k hk => ?_, hE16⟩
  · refine (missing1_ok (he.blk hBs (hk bs (List.mem_cons_self ..))) (hOL.evo he (fun g hg => hk g (List.mem_cons_of_mem _ (by simp [hg])))) hSR (by omega) x).mono ?_
    rintro e W' ⟨v, rfl, rfl, h2⟩
    exact ⟨_, rfl, by congr 1; exact decide_eq_decide.2 (not_congr (hmem x)), h2⟩
  · rcases List.mem_cons.1 hk with rfl | hk
    · exact ⟨hgb _ rfl, blk_lt hBs⟩
    · have hk2 : ob = some k := by simpa using hk
      exact ⟨hgl k hk2, Lt.own hOL k hk2⟩

theorem without1_ok {w : World} {q : Nat} {cap : List Value} {b : Bool} (hB : w.heap[q]? = some (.cells #[.func (.func 37) #[] cap.toArray] 41 (0, 0))) (x : Int)
    (hA : ∀ W, Evo [] w W → Calls Try.prog 37 (.int .i64 x :: cap).toArray W (Ret fun v W' => v = .bool b ∧ Evo [] W W')) :
    Calls Try.prog 23 #[.int .i64 x, .pointer (some ⟨q, 0, none⟩)] w (Ret fun v w' => v = .bool (!b) ∧ Evo [] w w') := by
  refine calls_of_cw (N := 8) Try.func23 rfl rfl rfl ?_
  refine cw_seq ?_
  refine cw_region ?_
  refine wl_val rfl (ex_assign rfl) ?_
  refine wl_nil (nrm_then ?_)
  refine cw_seq ?_
  refine cw_region ?_
  refine wl_val rfl (ex_load1 rfl Try.agg41 (cell_nth hB rfl)) ?_
  refine wl_val rfl (ex_move rfl) ?_
  refine wl_callv1 (vs := [_]) Try.goes37 rfl rfl (hA w (Evo.refl [] w)) rfl ?_
  rintro _ w1 ⟨rfl, hw2⟩
  have hE3 := (Evo.refl [] w).then hw2
  have hB4 := hw2.blk0 hB
  refine wl_val rfl (ex_notb rfl) ?_
  refine wl_val rfl (ex_assign rfl) ?_
  refine wl_nil (nrm_then ?_)
  refine cw_ret (body_ret1 rfl rfl ?_)
  exact ⟨rfl, hE3⟩

theorem indexFunc_ok {fn : FuncId} {cap : List Value} {K : List Nat} {p : Int → Bool} (hgo : Goes Try.prog fn) {w : World} {a : Option Addr} {n c : Nat} {ob : Option Nat} {zs : List Int} (hO : OwnS w 3 1 a n c (zs.map iv) ob) (hl : n ≤ 1000000000) (hA : Asks fn cap K w p) :
    Calls Try.prog 33 #[.slice a n c, .func (.func fn) #[] cap.toArray] w (Ret fun v w' => v = .int .i64 (fidx p zs) ∧ Evo [] w w') := by
  have hn := own_n hO
  refine calls_of_cw (N := 19) Try.func33 rfl rfl rfl ?_
  refine cw_seq ?_
  refine cw_region ?_
  refine wl_val rfl (ex_assign rfl) ?_
  refine wl_nil (nrm_then ?_)
  refine cw_seq ?_
  refine cw_seq ?_
  refine cw_region ?_
  refine wl_val rfl (ex_move rfl) ?_
  refine wl_val rfl (ex_len_slice rfl Try.underlying22 rfl) ?_
  refine wl_val rfl (ex_move rfl) ?_
  refine wl_nil (nrm_then ?_)
  refine cw_block ?_
  refine cw_loop (α := Nat) (0) (fun k => [(8, .int .i64 (k : Nat))]) [(0, _), (1, _), (7, _)] (fun k wr => Evo [] w wr ∧ (k ≤ zs.length ∧ ∀ x, x ∈ zs.take k → p x = false)) (fun k => zs.length - k) ⟨rfl, trivial⟩ ⟨rfl, rfl, rfl, trivial⟩ ⟨Evo.refl _ _, ⟨Nat.zero_le _, fun x hx => by simp at hx⟩⟩ ?_
  rintro k wr1 ⟨hV2, ⟨hk, hpre⟩⟩
  show CW _ _ _ _ [(8, _), (0, _), (1, _), (7, _)] _
  have hE3 := (Evo.refl [] w).then hV2
  have hO4 := hO.evo0 hV2
  refine cw_seq ?_
  refine cw_region ?_
  refine wl_val rfl (ex_lss rfl rfl) ?_
  refine wl_nil (nrm_then ?_)
  refine cw_seq ?_
  refine cw_if rfl (fun hc9 => ?_) (fun hc9 => ?_)
  · skip
    have hk' : k < zs.length := by omega
    obtain ⟨gb, hgb, ha, hc⟩ := own_at hO4 hk'
    refine cw_skip (nrm_then ?_)
    refine cw_seq ?_
    refine cw_block ?_
    refine cw_seq ?_
    refine cw_region ?_
    refine wl_val rfl (ex_move rfl) ?_
    refine wl_val rfl (ex_assign rfl) ?_
    refine wl_nil (nrm_then ?_)
    refine cw_seq ?_
    refine cw_region ?_
    refine wl_val rfl (ex_move rfl) ?_
    refine wl_val rfl (ex_move rfl) ?_
    refine wl_val rfl (ex_move rfl) ?_
    refine wl_val rfl (ex_indexAddr (n := k) (by rw [ha]; rfl) rfl Try.elem22 (by omega)) ?_
    refine wl_val rfl (ex_load1 rfl Try.agg3 hc) ?_
    refine wl_callv1 (vs := [_]) hgo rfl rfl (hA [] wr1 _ hE3 (fun _ _ h => by cases h)) rfl ?_
    rintro _ w5 ⟨rfl, hw6⟩
    have hE7 := hE3.then hw6
    have hE8 := hV2.then hw6
    have hO9 := hO4.evo0 hw6
    refine wl_nil (nrm_then ?_)
    refine cw_ifb rfl (fun hc16 => ?_) (fun hc16 => ?_)
    · skip
      refine cw_seq ?_
      refine cw_region ?_
      refine wl_val rfl (ex_move rfl) ?_
      refine wl_val rfl (ex_assign rfl) ?_
      refine wl_nil (nrm_then ?_)
      refine cw_ret (ret_block (ret_then (ret_then (ret_block (ret_then (body_ret1 rfl rfl ?_))))))
      exact ⟨by rw [fidx_at hk' hc16 hpre], hE7⟩
    · skip
      refine cw_skip (nrm_block (nrm_then ?_))
      refine cw_region ?_
      refine wl_val rfl (ex_add_i64 rfl rfl (by omega) (by omega)) ?_
      refine wl_val rfl (ex_move rfl) ?_
      refine wl_nil (nrm_same ?_)
      refine ⟨k + 1, ?_, ⟨rfl, trivial⟩, ⟨rfl, rfl, rfl, trivial⟩, hE8, ?_⟩
      · omega
      · skip
        exact ⟨by omega, fidx_step hk' hc16 hpre⟩
  · skip
    refine cw_exit (ex_then (ex_then (ex_here (nrm_then ?_))))
    refine cw_seq ?_
    refine cw_region ?_
    refine wl_val rfl (ex_assign rfl) ?_
    refine wl_nil (nrm_then ?_)
    refine cw_ret (body_ret1 rfl rfl ?_)
    exact ⟨by rw [fidx_not (fun x hx => hpre x (by rw [List.take_of_length_le (by omega)]; exact hx))], hE3⟩

theorem deleteFunc_ok {fn : FuncId} {cap : List Value} {K : List Nat} {p : Int → Bool} (hgo : Goes Try.prog fn) {w : World} {a : Option Addr} {n c : Nat} {ob : Option Nat} {zs : List Int} (hO : OwnS w 3 1 a n c (zs.map iv) ob) (hl : n ≤ 1000000000) (hA : Asks fn cap K w p) (hK : ∀ k, k ∈ K → k ∉ ob.toList) :
    Calls Try.prog 17 #[.slice a n c, .func (.func fn) #[] cap.toArray] w (Ret fun v w' => v = .slice a (zs.filter fun x => !p x).length c ∧ OwnS w' 3 1 a (zs.filter fun x => !p x).length c ((zs.filter fun x => !p x).map iv) ob ∧ Evo ob.toList w w') := by
  have hn := own_n hO
  refine calls_of_cw (N := 42) Try.func17 rfl rfl rfl ?_
  refine cw_seq ?_
  refine cw_region ?_
  refine wl_val rfl (ex_assign rfl) ?_
  refine wl_nil (nrm_then ?_)
  refine cw_seq ?_
  refine cw_region ?_
  refine wl_val rfl (ex_move rfl) ?_
  refine wl_val rfl (ex_move rfl) ?_
  refine wl_call1 (vs := [_, _]) Try.goes33 rfl (indexFunc_ok hgo hO hl (hA.evo (Evo.refl [] w))) rfl ?_
  rintro _ w1 ⟨rfl, hw2⟩
  have hE3 := (Evo.refl ob.toList w).then hw2
  have hO4 := hO.evo0 hw2
  refine wl_val rfl (ex_assign rfl) ?_
  refine wl_nil (nrm_then ?_)
  refine cw_seq ?_
  refine cw_seq ?_
  refine cw_region ?_
  refine wl_val rfl (ex_move rfl) ?_
  refine wl_val rfl (ex_eql rfl rfl) ?_
  refine wl_nil (nrm_then ?_)
  refine cw_if rfl (fun hc12 => ?_) (fun hc12 => ?_)
  · skip
    refine cw_seq ?_
    refine cw_region ?_
    refine wl_val rfl (ex_move rfl) ?_
    refine wl_val rfl (ex_assign rfl) ?_
    refine wl_nil (nrm_then ?_)
    refine cw_ret (ret_then (body_ret1 rfl rfl ?_))
    have hff := fidx_none hc12
    rw [hff]
    exact ⟨by rw [hn], by rw [← hn]; exact hO4, hE3⟩
  · skip
    obtain ⟨k, hk, hfk, hp1, hp2⟩ := fidx_some hc12
    rw [hfk]
    refine cw_skip (nrm_then ?_)
    refine cw_seq ?_
    refine cw_seq ?_
    refine cw_region ?_
    refine wl_val rfl (ex_move rfl) ?_
    refine wl_val rfl (ex_add_i64 rfl rfl (by omega) (by omega)) ?_
    refine wl_val rfl (ex_assign rfl) ?_
    refine wl_nil (nrm_then ?_)
    refine cw_block ?_
    refine cw_loop (α := Nat × Nat × List Int) (⟨k, k + 1, zs⟩) (fun x => [(5, .int .i64 (x.1 : Nat)), (6, .int .i64 (x.2.1 : Nat))]) [(0, _), (1, _), (4, _)] (fun x wr => Evo ob.toList w wr ∧ (Del p zs x.1 x.2.1 x.2.2 ∧ OwnS wr 3 1 a n c (x.2.2.map iv) ob)) (fun x => zs.length - x.2.1) ⟨rfl, rfl, trivial⟩ ⟨rfl, rfl, rfl, trivial⟩ ⟨hE3, ⟨Del.start hk hp1 hp2, hO4⟩⟩ ?_
    rintro ⟨i, j, ys⟩ wr5 ⟨hV6, ⟨hD, hO8⟩⟩
    show CW _ _ _ _ [(5, .int .i64 (i : Nat)), (6, .int .i64 (j : Nat)), (0, _), (1, _), (4, _)] _
    try dsimp only at hD
    try dsimp only at hO8
    refine cw_seq ?_
    refine cw_seq ?_
    refine cw_region ?_
    refine wl_val rfl (ex_move rfl) ?_
    refine wl_val rfl (ex_move rfl) ?_
    refine wl_val rfl (ex_len_slice rfl Try.underlying22 rfl) ?_
    refine wl_val rfl (ex_lss rfl rfl) ?_
    refine wl_nil (nrm_then ?_)
    refine cw_if rfl (fun hc19 => ?_) (fun hc19 => ?_)
    · skip
      have hj : j < zs.length := by omega
      have hyl := hD.len
      obtain ⟨gb, hgb, ha, hc⟩ := own_at hO8 (k := j) (by omega)
      rw [hD.get hj] at hc
      refine cw_skip (nrm_then ?_)
      refine cw_seq ?_
      refine cw_block ?_
      refine cw_seq ?_
      refine cw_region ?_
      refine wl_val rfl (ex_move rfl) ?_
      refine wl_val rfl (ex_move rfl) ?_
      refine wl_val rfl (ex_indexAddr (n := j) (by rw [ha]; rfl) rfl Try.elem22 (by omega)) ?_
      refine wl_val rfl (ex_load1 rfl Try.agg3 hc) ?_
      refine wl_val rfl (ex_assign rfl) ?_
      refine wl_nil (nrm_then ?_)
      refine cw_seq ?_
      refine cw_region ?_
      refine wl_val rfl (ex_move rfl) ?_
      refine wl_val rfl (ex_move rfl) ?_
      refine wl_callv1 (vs := [_]) hgo rfl rfl (hA _ wr5 _ hV6 hK) rfl ?_
      rintro _ w7 ⟨rfl, hw8⟩
      have hE9 := hV6.then hw8
      have hO10 := hO8.evo0 hw8
      refine wl_val rfl (ex_notb rfl) ?_
      refine wl_nil (nrm_then ?_)
      refine cw_ifb rfl (fun hc29 => ?_) (fun hc29 => ?_)
      · skip
        have hil := hD.lt
        have hpf : p zs[j] = false := by simpa using hc29
        refine cw_seq ?_
        refine cw_region ?_
        refine wl_val rfl (ex_move rfl) ?_
        refine wl_val rfl (ex_move rfl) ?_
        refine wl_val rfl (ex_move rfl) ?_
        refine wl_val rfl (ex_indexAddr (n := i) (by rw [ha]; rfl) rfl Try.elem22 (by omega)) ?_
        obtain ⟨g20, cur11, hg12, hx13, hcu14, hcs15, -⟩ := hO10.at (by omega)
        rw [ha] at hx13; cases hx13
        refine wl_store1L rfl rfl (rfl) Try.size3 hcu14 (hO10.inb hcs15 (k := i) (j := 0) (by omega) (by omega) (by omega)) fun w16 hB17 hw18 => ?_
        replace hw18 := evo_ob hg12 hw18
        have hO19 := hO10.set' hg12 hcu14 hB17
        have hE21 := hE9.step hw18 (by intro y hy; left; simpa using hy)
        refine wl_nil (nrm_then ?_)
        refine cw_region ?_
        refine wl_val rfl (ex_move rfl) ?_
        refine wl_val rfl (ex_add_i64 rfl rfl (by omega) (by omega)) ?_
        refine wl_val rfl (ex_assign rfl) ?_
        refine wl_nil (nrm_block (nrm_then ?_))
        refine cw_region ?_
        refine wl_val rfl (ex_move rfl) ?_
        refine wl_val rfl (ex_add_i64 rfl rfl (by omega) (by omega)) ?_
        refine wl_val rfl (ex_assign rfl) ?_
        refine wl_nil (nrm_same ?_)
        refine ⟨⟨i + 1, j + 1, ys.set i zs[j]⟩, ?_, ⟨rfl, rfl, trivial⟩, ⟨rfl, rfl, rfl, trivial⟩, hE21, ?_⟩
        · (try dsimp only); omega
        · skip
          try dsimp only
          refine ⟨hD.keep hj hpf, ?_⟩
          have h9 := hO19
          rw [Nat.zero_add, Nat.mul_one, ← List.map_set] at h9
          exact h9
      · skip
        have hpt : p zs[j] = true := by simpa using hc29
        refine cw_skip (nrm_block (nrm_then ?_))
        refine cw_region ?_
        refine wl_val rfl (ex_move rfl) ?_
        refine wl_val rfl (ex_add_i64 rfl rfl (by omega) (by omega)) ?_
        refine wl_val rfl (ex_assign rfl) ?_
        refine wl_nil (nrm_same ?_)
        refine ⟨⟨i, j + 1, ys⟩, ?_, ⟨rfl, rfl, trivial⟩, ⟨rfl, rfl, rfl, trivial⟩, hE9, ?_⟩
        · (try dsimp only); omega
        · skip
          try dsimp only
          exact ⟨hD.skip hj hpt, hO10⟩
    · skip
      have hdn := hD.done (by omega)
      refine cw_exit (ex_then (ex_then (ex_here (nrm_then ?_))))
      refine cw_seq ?_
      refine cw_region ?_
      refine wl_val rfl (ex_move rfl) ?_
      refine wl_val rfl (ex_move rfl) ?_
      refine wl_val rfl (ex_ownFrom hO8 rfl rfl Try.underlying22 Try.size3 rfl (by omega)) ?_
      refine wl_clear hO8 (by omega) rfl rfl Try.underlying22 Try.zero3 rfl fun w9 hO9 hw9 => ?_
      have hE22 := hV6.step hw9 (by intro y hy; left; simpa using hy)
      refine wl_nil (nrm_then ?_)
      refine cw_seq ?_
      refine cw_region ?_
      refine wl_val rfl (ex_move rfl) ?_
      refine wl_val rfl (ex_move rfl) ?_
      refine wl_val rfl (ex_ownTo hO8 rfl rfl Try.underlying22 Try.size3 rfl (by have := hO9.le; omega)) ?_
      refine wl_val rfl (ex_assign rfl) ?_
      refine wl_nil (nrm_then ?_)
      refine cw_ret (body_ret1 rfl rfl ?_)
      obtain ⟨hd1, hd2, hd3⟩ := hdn
      refine ⟨by rw [← hd2], ?_, hE22⟩
      have h9 := hO9
      rw [← List.map_take, hd1] at h9
      rw [← hd2]
      exact h9

end Go.Proofs.Ytebghjbfdpeipaa
