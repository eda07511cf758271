/- The walks of both functions Next (utf and the reference): the rune at a place. -/
import Derived.Test.YtgboffefbpligaaTc
import Derived.Test.YtgboffefbpligaaPf
namespace Go.Proofs.Ytgboffefbpligaa
open Go.Proofs
open Go.W
attribute [local irreducible] Decidable.decide
set_option linter.unusedSimpArgs false
set_option linter.unusedVariables false
theorem Try.goes80 : Goes Try.prog 80 := ⟨_, Try.func80, by kernel_rfl, by kernel_rfl⟩
theorem Try.goes81 : Goes Try.prog 81 := ⟨_, Try.func81, by kernel_rfl, by kernel_rfl⟩
theorem Try.goes87 : Goes Try.prog 87 := ⟨_, Try.func87, by kernel_rfl, by kernel_rfl⟩
theorem Try.goes88 : Goes Try.prog 88 := ⟨_, Try.func88, by kernel_rfl, by kernel_rfl⟩
theorem Try.goes96 : Goes Try.prog 96 := ⟨_, Try.func96, by kernel_rfl, by kernel_rfl⟩
theorem Try.slice93 : sliceB Try.prog 93 = some (5, 1) := by kernel_rfl


theorem own_bstr {w : World} {e : TypeId} {a : Option Addr} {n c : Nat} {ds : List Nat} {ob : Option Nat} (h : OwnS w e 1 a n c (ds.map fun d : Nat => Value.int .u8 (d : Int)) ob) (hl : ds.length = n) (hb : ∀ b, b ∈ ds → b < 256) : RSl 1 RB [] w (.slice a n c) ds := by
  have e1 : (ds.map fun d : Nat => [Value.int .u8 (d : Int)]).flatten = ds.map fun d : Nat => Value.int .u8 (d : Int) := by clear h hl hb; induction ds with | nil => rfl | cons d ds ih => simpa using ih
  rw [← e1] at h
  exact RSl.ofOwn h ⟨by simp, fun k h1 h2 => by simp only [List.getElem_map]; exact ⟨rfl, rfl, hb _ (List.getElem_mem _)⟩⟩ hl (fun _ _ h => by cases h)
theorem guess_bound (s : ByteArray) (a k : Nat) : -100000000 ≤ guessB s a k ∧ guessB s a k ≤ 100000000 := by
  have b0 := sb_lt s a
  have b1 := sb_lt s (a + 1)
  have b2 := sb_lt s (a + 2)
  have b3 := sb_lt s (a + 3)
  unfold guessB
  repeat' split
  all_goals omega
theorem bstr_size (l : List Nat) : (bstr l).size = l.length := by simp [bstr, ByteArray.size]
theorem isr_iff {n : Int} : IsR n ↔ (0 ≤ n ∧ n ≤ 1114111 ∧ (n < 55296 ∨ 57343 < n)) := Iff.rfl

theorem isRune_ok {w : World} (n : Int) : Calls Try.prog 96 #[.int .i64 n] w (Ret fun v w' => v = .bool (decide (IsR n)) ∧ Evo [] w w') := by
  refine calls_of_cw (N := 17) Try.func96 rfl rfl rfl ?_
  refine cw_seq ?_
  refine cw_region ?_
  refine wl_a ?_
  refine wl_nil (nrm_then ?_)
  refine cw_seq ?_
  refine cw_region ?_
  refine wl_m ?_
  refine wl_val rfl (ex_geq rfl rfl) ?_
  refine wl_m ?_
  refine wl_split (t := 5) rfl (fun hs5 => ?_) (fun hs5 => ?_)
  ·skip
   refine wl_g ?_
   refine wl_m ?_
   refine wl_g ?_
   refine wl_val rfl (ex_leq rfl rfl) ?_
   refine wl_pt ?_
   refine wl_m ?_
   refine wl_split (t := 9) rfl (fun hs9 => ?_) (fun hs9 => ?_)
   ·skip
    refine wl_g ?_
    refine wl_m ?_
    refine wl_g ?_
    refine wl_val rfl (ex_lss rfl rfl) ?_
    refine wl_g ?_
    refine wl_m ?_
    refine wl_split (t := 12) rfl (fun hs12 => ?_) (fun hs12 => ?_)
    ·skip
     refine wl_n ?_
     refine wl_n ?_
     refine wl_g ?_
     refine wl_pt ?_
     refine wl_pt ?_
     refine wl_a ?_
     refine wl_nil (nrm_then ?_)
     refine cw_ret (body_ret1 rfl rfl ?_)
     exact ⟨congrArg Value.bool (by first | exact decide_eq_decide.2 (by unfold IsR; omega) | exact (decide_eq_true (by unfold IsR; omega)).symm | exact (decide_eq_false (by unfold IsR; omega)).symm), (Evo.refl [] w)⟩
    ·skip
     refine wl_g ?_
     refine wl_m ?_
     refine wl_g ?_
     refine wl_val rfl (ex_gtr rfl rfl) ?_
     refine wl_g ?_
     refine wl_pf ?_
     refine wl_pt ?_
     refine wl_a ?_
     refine wl_nil (nrm_then ?_)
     refine cw_ret (body_ret1 rfl rfl ?_)
     exact ⟨congrArg Value.bool (by first | exact decide_eq_decide.2 (by unfold IsR; omega) | exact (decide_eq_true (by unfold IsR; omega)).symm | exact (decide_eq_false (by unfold IsR; omega)).symm), (Evo.refl [] w)⟩
   ·skip
    refine wl_n ?_
    refine wl_n ?_
    refine wl_n ?_
    refine wl_u ?_
    refine wl_u ?_
    refine wl_n ?_
    refine wl_pf ?_
    refine wl_a ?_
    refine wl_nil (nrm_then ?_)
    refine cw_ret (body_ret1 rfl rfl ?_)
    exact ⟨congrArg Value.bool (by first | exact decide_eq_decide.2 (by unfold IsR; omega) | exact (decide_eq_true (by unfold IsR; omega)).symm | exact (decide_eq_false (by unfold IsR; omega)).symm), (Evo.refl [] w)⟩
  ·skip
   refine wl_n ?_
   refine wl_n ?_
   refine wl_pf ?_
   refine wl_m ?_
   refine wl_n ?_
   refine wl_n ?_
   refine wl_n ?_
   refine wl_u ?_
   refine wl_u ?_
   refine wl_n ?_
   refine wl_pf ?_
   refine wl_a ?_
   refine wl_nil (nrm_then ?_)
   refine cw_ret (body_ret1 rfl rfl ?_)
   exact ⟨congrArg Value.bool (by first | exact decide_eq_decide.2 (by unfold IsR; omega) | exact (decide_eq_true (by unfold IsR; omega)).symm | exact (decide_eq_false (by unfold IsR; omega)).symm), (Evo.refl [] w)⟩

theorem form_ok {w : World} (n : Int) (hn : -9223372036854775808 ≤ n) (hn2 : n ≤ 9223372036854775807) : Calls Try.prog 81 #[.int .i64 n] w (Ret fun v w' => v = .string (bstr (formB n)) ∧ Evo [] w w') := by
  refine calls_of_cw (N := 60) Try.func81 rfl rfl rfl ?_
  refine cw_seq ?_
  refine cw_region ?_
  refine wl_a ?_
  refine wl_nil (nrm_then ?_)
  refine cw_seq ?_
  refine cw_seq ?_
  refine cw_region ?_
  refine wl_m ?_
  refine wl_call1 (vs := [_]) Try.goes96 rfl (isRune_ok _) rfl ?_
  rintro _ w1 ⟨rfl, hw2⟩
  have hE3 := (Evo.refl [] w).then hw2
  refine wl_val rfl (ex_not rfl) ?_
  refine wl_nil (nrm_then ?_)
  refine cw_if rfl (fun hc8 => ?_) (fun hc8 => ?_)
  ·skip
   refine cw_seq ?_
   refine cw_region ?_
   refine wl_a ?_
   refine wl_nil (nrm_then ?_)
   refine cw_ret (ret_then (body_ret1 rfl rfl ?_))
   exact ⟨by rw [show formB n = [] from if_neg (by simpa using hc8)]; rfl, hE3⟩
  ·skip
   have hir : IsR n := by simpa using hc8
   have hir2 := isr_iff.1 hir
   obtain ⟨m, rfl⟩ := Int.eq_ofNat_of_zero_le hir2.1
   refine cw_skip (nrm_then ?_)
   refine cw_seq ?_
   refine cw_region ?_
   refine wl_m ?_
   refine wl_val rfl (ex_remN (m := m) (n := 64) rfl rfl (by omega) (by omega) (by omega)) ?_
   refine wl_val rfl (ex_add_i64 rfl rfl (by omega) (by omega)) ?_
   refine wl_val rfl (ex_convB (128 + m % 64) rfl Try.underlying3 Try.underlying5 (by omega) (by simp [IntKind.max, IntKind.bits, IntKind.signed] <;> omega)) ?_
   refine wl_a ?_
   refine wl_nil (nrm_then ?_)
   refine cw_seq ?_
   refine cw_region ?_
   refine wl_m ?_
   refine wl_val rfl (ex_quoN (m := m) (n := 64) rfl rfl (by omega) (by omega) (by omega) (by simp [IntKind.max, IntKind.signed, IntKind.bits]; omega)) ?_
   refine wl_val rfl (ex_remN (m := m / 64) (n := 64) rfl rfl (by omega) (by omega) (by omega)) ?_
   refine wl_val rfl (ex_add_i64 rfl rfl (by omega) (by omega)) ?_
   refine wl_val rfl (ex_convB (128 + m / 64 % 64) rfl Try.underlying3 Try.underlying5 (by omega) (by simp [IntKind.max, IntKind.bits, IntKind.signed] <;> omega)) ?_
   refine wl_a ?_
   refine wl_nil (nrm_then ?_)
   refine cw_seq ?_
   refine cw_region ?_
   refine wl_m ?_
   refine wl_val rfl (ex_quoN (m := m) (n := 4096) rfl rfl (by omega) (by omega) (by omega) (by simp [IntKind.max, IntKind.signed, IntKind.bits]; omega)) ?_
   refine wl_val rfl (ex_remN (m := m / 4096) (n := 64) rfl rfl (by omega) (by omega) (by omega)) ?_
   refine wl_val rfl (ex_add_i64 rfl rfl (by omega) (by omega)) ?_
   refine wl_val rfl (ex_convB (128 + m / 4096 % 64) rfl Try.underlying3 Try.underlying5 (by omega) (by simp [IntKind.max, IntKind.bits, IntKind.signed] <;> omega)) ?_
   refine wl_a ?_
   refine wl_nil (nrm_then ?_)
   refine cw_seq ?_
   refine cw_block ?_
   refine cw_seq ?_
   refine cw_region ?_
   refine wl_m ?_
   refine wl_val rfl (ex_lss rfl rfl) ?_
   refine wl_a ?_
   refine wl_nil (nrm_then ?_)
   refine cw_if rfl (fun hc23 => ?_) (fun hc23 => ?_)
   ·skip
    refine cw_seq ?_
    refine cw_region ?_
    refine wl_m ?_
    refine wl_val rfl (ex_convB (m) rfl Try.underlying3 Try.underlying5 (by omega) (by simp [IntKind.max, IntKind.bits, IntKind.signed] <;> omega)) ?_
    refine wl_bslice (vs := [_]) rfl Try.slice93 rfl rfl rfl rfl fun b4 w5 hO6 hs7 hw8 => ?_
    have hG9 := Ge.new hE3 hs7
    have hE10 := hE3.then hw8
    have hT28 := own_bstr (ds := [m]) hO6 rfl (by intro b hb; simp only [List.mem_cons, List.not_mem_nil, or_false] at hb; omega)
    refine wl_val rfl (ex_bstr rfl hT28 Try.underlying93 Try.underlying5 Try.underlying9) ?_
    refine wl_a ?_
    refine wl_nil (nrm_then ?_)
    refine cw_ret (ret_block (ret_then (body_ret1 rfl rfl ?_)))
    refine ⟨?_, hE10⟩
    rw [show formB (m : Int) = formN m from by rw [formB, if_pos hir]; rfl]
    unfold formN
    repeat' split
    all_goals first | rfl | omega
   ·skip
    refine cw_seq ?_
    refine cw_region ?_
    refine wl_m ?_
    refine wl_val rfl (ex_lss rfl rfl) ?_
    refine wl_a ?_
    refine wl_nil (nrm_then ?_)
    refine cw_if rfl (fun hc30 => ?_) (fun hc30 => ?_)
    ·skip
     refine cw_seq ?_
     refine cw_region ?_
     refine wl_m ?_
     refine wl_val rfl (ex_quoN (m := m) (n := 64) rfl rfl (by omega) (by omega) (by omega) (by simp [IntKind.max, IntKind.signed, IntKind.bits]; omega)) ?_
     refine wl_val rfl (ex_add_i64 rfl rfl (by omega) (by omega)) ?_
     refine wl_val rfl (ex_convB (192 + m / 64) rfl Try.underlying3 Try.underlying5 (by omega) (by simp [IntKind.max, IntKind.bits, IntKind.signed] <;> omega)) ?_
     refine wl_m ?_
     refine wl_bslice (vs := [_, _]) rfl Try.slice93 rfl rfl rfl rfl fun b11 w12 hO13 hs14 hw15 => ?_
     have hG16 := Ge.new hE3 hs14
     have hE17 := hE3.then hw15
     have hT38 := own_bstr (ds := [192 + m / 64, 128 + m % 64]) hO13 rfl (by intro b hb; simp only [List.mem_cons, List.not_mem_nil, or_false] at hb; omega)
     refine wl_val rfl (ex_bstr rfl hT38 Try.underlying93 Try.underlying5 Try.underlying9) ?_
     refine wl_a ?_
     refine wl_nil (nrm_then ?_)
     refine cw_ret (ret_block (ret_then (body_ret1 rfl rfl ?_)))
     refine ⟨?_, hE17⟩
     rw [show formB (m : Int) = formN m from by rw [formB, if_pos hir]; rfl]
     unfold formN
     repeat' split
     all_goals first | rfl | omega
    ·skip
     refine cw_seq ?_
     refine cw_region ?_
     refine wl_m ?_
     refine wl_val rfl (ex_lss rfl rfl) ?_
     refine wl_a ?_
     refine wl_nil (nrm_then ?_)
     refine cw_if rfl (fun hc40 => ?_) (fun hc40 => ?_)
     ·skip
      refine cw_seq ?_
      refine cw_region ?_
      refine wl_m ?_
      refine wl_val rfl (ex_quoN (m := m) (n := 4096) rfl rfl (by omega) (by omega) (by omega) (by simp [IntKind.max, IntKind.signed, IntKind.bits]; omega)) ?_
      refine wl_val rfl (ex_add_i64 rfl rfl (by omega) (by omega)) ?_
      refine wl_val rfl (ex_convB (224 + m / 4096) rfl Try.underlying3 Try.underlying5 (by omega) (by simp [IntKind.max, IntKind.bits, IntKind.signed] <;> omega)) ?_
      refine wl_m ?_
      refine wl_m ?_
      refine wl_bslice (vs := [_, _, _]) rfl Try.slice93 rfl rfl rfl rfl fun b18 w19 hO20 hs21 hw22 => ?_
      have hG23 := Ge.new hE3 hs21
      have hE24 := hE3.then hw22
      have hT49 := own_bstr (ds := [224 + m / 4096, 128 + m / 64 % 64, 128 + m % 64]) hO20 rfl (by intro b hb; simp only [List.mem_cons, List.not_mem_nil, or_false] at hb; omega)
      refine wl_val rfl (ex_bstr rfl hT49 Try.underlying93 Try.underlying5 Try.underlying9) ?_
      refine wl_a ?_
      refine wl_nil (nrm_then ?_)
      refine cw_ret (ret_block (ret_then (body_ret1 rfl rfl ?_)))
      refine ⟨?_, hE24⟩
      rw [show formB (m : Int) = formN m from by rw [formB, if_pos hir]; rfl]
      unfold formN
      repeat' split
      all_goals first | rfl | omega
     ·skip
      refine cw_skip (nrm_block (nrm_then ?_))
      refine cw_seq ?_
      refine cw_region ?_
      refine wl_m ?_
      refine wl_val rfl (ex_quoN (m := m) (n := 262144) rfl rfl (by omega) (by omega) (by omega) (by simp [IntKind.max, IntKind.signed, IntKind.bits]; omega)) ?_
      refine wl_val rfl (ex_add_i64 rfl rfl (by omega) (by omega)) ?_
      refine wl_val rfl (ex_convB (240 + m / 262144) rfl Try.underlying3 Try.underlying5 (by omega) (by simp [IntKind.max, IntKind.bits, IntKind.signed] <;> omega)) ?_
      refine wl_m ?_
      refine wl_m ?_
      refine wl_m ?_
      refine wl_bslice (vs := [_, _, _, _]) rfl Try.slice93 rfl rfl rfl rfl fun b25 w26 hO27 hs28 hw29 => ?_
      have hG30 := Ge.new hE3 hs28
      have hE31 := hE3.then hw29
      have hT58 := own_bstr (ds := [240 + m / 262144, 128 + m / 4096 % 64, 128 + m / 64 % 64, 128 + m % 64]) hO27 rfl (by intro b hb; simp only [List.mem_cons, List.not_mem_nil, or_false] at hb; omega)
      refine wl_val rfl (ex_bstr rfl hT58 Try.underlying93 Try.underlying5 Try.underlying9) ?_
      refine wl_a ?_
      refine wl_nil (nrm_then ?_)
      refine cw_ret (body_ret1 rfl rfl ?_)
      refine ⟨?_, hE31⟩
      rw [show formB (m : Int) = formN m from by rw [formB, if_pos hir]; rfl]
      unfold formN
      repeat' split
      all_goals first | rfl | omega

theorem guess_ok {w : World} (s : ByteArray) (a k : Nat) (hk : 1 ≤ k) (hk4 : k ≤ 4) (hs : a + k ≤ s.size) (hl : s.size ≤ 140737488355328) : Calls Try.prog 80 #[.string s, .int .i64 (a : Nat), .int .i64 (k : Nat)] w (Ret fun v w' => v = .int .i64 (guessB s a k) ∧ Evo [] w w') := by
  have b0 := sb_lt s a
  have b1 := sb_lt s (a + 1)
  have b2 := sb_lt s (a + 2)
  have b3 := sb_lt s (a + 3)
  refine calls_of_cw (N := 43) Try.func80 rfl rfl rfl ?_
  refine cw_seq ?_
  refine cw_region ?_
  refine wl_a ?_
  refine wl_nil (nrm_then ?_)
  refine cw_seq ?_
  refine cw_region ?_
  refine wl_m ?_
  refine wl_m ?_
  refine wl_val rfl (ex_sidx (n := a) rfl rfl Try.underlying9 rfl (by omega)) ?_
  refine wl_val rfl (ex_convB (sb s a) rfl Try.underlying5 Try.underlying3 (by omega) (by simp [IntKind.max, IntKind.bits, IntKind.signed] <;> omega)) ?_
  refine wl_a ?_
  refine wl_nil (nrm_then ?_)
  refine cw_seq ?_
  refine cw_seq ?_
  refine cw_region ?_
  refine wl_m ?_
  refine wl_val rfl (ex_eql rfl rfl) ?_
  refine wl_nil (nrm_then ?_)
  refine cw_if rfl (fun hc15 => ?_) (fun hc15 => ?_)
  ·skip
   refine cw_seq ?_
   refine cw_region ?_
   refine wl_m ?_
   refine wl_a ?_
   refine wl_nil (nrm_then ?_)
   refine cw_ret (ret_then (body_ret1 rfl rfl ?_))
   exact ⟨by unfold guessB; rw [if_pos (by omega)], (Evo.refl [] w)⟩
  ·skip
   refine cw_skip (nrm_then ?_)
   refine cw_seq ?_
   refine cw_region ?_
   refine wl_m ?_
   refine wl_val rfl (ex_sub_i64 rfl rfl (by omega) (by omega)) ?_
   refine wl_a ?_
   refine wl_nil (nrm_then ?_)
   refine cw_seq ?_
   refine cw_cut (α := Int) (fun x => [(8, .int .i64 x)]) [(0, _), (1, _), (2, _), (6, _), (7, _)] (fun x wr => Evo [] w wr ∧ (x = (sb s a : Int) - (if k = 3 then 224 else 192))) ⟨rfl, rfl, rfl, rfl, rfl, trivial⟩ ?_ ?_
   ·skip
    refine cw_seq ?_
    refine cw_region ?_
    refine wl_m ?_
    refine wl_val rfl (ex_eql rfl rfl) ?_
    refine wl_nil (nrm_then ?_)
    refine cw_if rfl (fun hc20 => ?_) (fun hc20 => ?_)
    ·skip
     refine cw_region ?_
     refine wl_m ?_
     refine wl_val rfl (ex_sub_i64 rfl rfl (by omega) (by omega)) ?_
     refine wl_a ?_
     refine wl_nil (nrm_same ?_)
     refine ⟨_, ⟨rfl, trivial⟩, ⟨rfl, rfl, rfl, rfl, rfl, trivial⟩, (Evo.refl [] w), ?_⟩
     split <;> omega
    ·skip
     refine cw_skip (nrm_same ?_)
     refine ⟨_, ⟨rfl, trivial⟩, ⟨rfl, rfl, rfl, rfl, rfl, trivial⟩, (Evo.refl [] w), ?_⟩
     split <;> omega
   ·skip
    rintro x1 w1 ⟨hV2, hx1⟩
    refine nrm_then ?_
    show CW _ _ _ _ [(8, _), (0, _), (1, _), (2, _), (6, _), (7, _)] _
    have hE3 := (Evo.refl [] w).then hV2
    refine cw_seq ?_
    refine cw_cut (α := Int) (fun x => [(8, .int .i64 x)]) [(0, _), (1, _), (2, _), (6, _)] (fun x wr => Evo [] w1 wr ∧ (x = (sb s a : Int) - (if k = 4 then 240 else if k = 3 then 224 else 192))) ⟨rfl, rfl, rfl, rfl, trivial⟩ ?_ ?_
    ·skip
     refine cw_seq ?_
     refine cw_region ?_
     refine wl_m ?_
     refine wl_val rfl (ex_eql rfl rfl) ?_
     refine wl_nil (nrm_then ?_)
     refine cw_if rfl (fun hc24 => ?_) (fun hc24 => ?_)
     ·skip
      refine cw_region ?_
      refine wl_m ?_
      refine wl_val rfl (ex_sub_i64 rfl rfl (by omega) (by omega)) ?_
      refine wl_a ?_
      refine wl_nil (nrm_same ?_)
      refine ⟨_, ⟨rfl, trivial⟩, ⟨rfl, rfl, rfl, rfl, trivial⟩, (Evo.refl [] w1), ?_⟩
      repeat' split
      all_goals (try rw [hx1])
      all_goals (try split)
      all_goals omega
     ·skip
      refine cw_skip (nrm_same ?_)
      refine ⟨_, ⟨rfl, trivial⟩, ⟨rfl, rfl, rfl, rfl, trivial⟩, (Evo.refl [] w1), ?_⟩
      repeat' split
      all_goals (try rw [hx1])
      all_goals (try split)
      all_goals omega
    ·skip
     rintro x2 w4 ⟨hV5, hx2⟩
     refine nrm_then ?_
     show CW _ _ _ _ [(8, _), (0, _), (1, _), (2, _), (6, _)] _
     have hE6 := hE3.then hV5
     refine cw_seq ?_
     refine cw_seq ?_
     refine cw_region ?_
     refine wl_a ?_
     refine wl_nil (nrm_then ?_)
     refine cw_block ?_
     refine cw_loop (α := Nat × Int) ((1, x2)) (fun x => [(9, .int .i64 (x.1 : Nat)), (8, .int .i64 x.2)]) [(0, _), (1, _), (2, _), (6, _)] (fun x wr => Evo [] w4 wr ∧ (1 ≤ x.1 ∧ x.1 ≤ k ∧ (x.1 = 1 → x.2 = x2) ∧ (x.1 = 2 → x.2 = x2 * 64 + sb s (a + 1) - 128) ∧ (x.1 = 3 → x.2 = (x2 * 64 + sb s (a + 1) - 128) * 64 + sb s (a + 2) - 128) ∧ (x.1 = 4 → x.2 = ((x2 * 64 + sb s (a + 1) - 128) * 64 + sb s (a + 2) - 128) * 64 + sb s (a + 3) - 128))) (fun x => 4 - x.1) ⟨rfl, rfl, trivial⟩ ⟨rfl, rfl, rfl, rfl, trivial⟩ ⟨Evo.refl _ _, ⟨by simp, by simp; omega, by simp, by simp, by simp, by simp⟩⟩ ?_
     rintro ⟨j, g⟩ wr7 ⟨hV8, ⟨h1, h2, g1, g2, g3, g4⟩⟩
     show CW _ _ _ _ [(9, .int .i64 (j : Nat)), (8, .int .i64 g), (0, _), (1, _), (2, _), (6, _)] _
     try dsimp only at h1
     try dsimp only at h2
     try dsimp only at g1
     try dsimp only at g2
     try dsimp only at g3
     try dsimp only at g4
     have hE9 := hE6.then hV8
     refine cw_seq ?_
     refine cw_seq ?_
     refine cw_region ?_
     refine wl_m ?_
     refine wl_m ?_
     refine wl_val rfl (ex_lss rfl rfl) ?_
     refine wl_nil (nrm_then ?_)
     refine cw_if rfl (fun hc29 => ?_) (fun hc29 => ?_)
     ·skip
      refine cw_skip (nrm_then ?_)
      refine cw_seq ?_
      refine cw_block ?_
      refine cw_region ?_
      have hj' : j < 4 := by omega
      have bj := sb_lt s (a + j)
      have hxb : -240 ≤ x2 ∧ x2 ≤ 255 := by rw [hx2]; (repeat' split) <;> omega
      have hj3 : j = 1 ∨ j = 2 ∨ j = 3 := by omega
      have hgb : -1100000 ≤ g ∧ g ≤ 1100000 := by omega
      refine wl_m ?_
      refine wl_val rfl (ex_mul_i64 rfl rfl (by omega) (by omega)) ?_
      refine wl_m ?_
      refine wl_m ?_
      refine wl_m ?_
      refine wl_val rfl (ex_add_i64 rfl rfl (by omega) (by omega)) ?_
      refine wl_val rfl (ex_sidx (n := a + j) rfl rfl Try.underlying9 (by omega) (by omega)) ?_
      refine wl_val rfl (ex_convB (sb s (a + j)) rfl Try.underlying5 Try.underlying3 (by omega) (by simp [IntKind.max, IntKind.bits, IntKind.signed] <;> omega)) ?_
      refine wl_val rfl (ex_add_i64 rfl rfl (by omega) (by omega)) ?_
      refine wl_val rfl (ex_sub_i64 rfl rfl (by omega) (by omega)) ?_
      refine wl_a ?_
      refine wl_nil (nrm_block (nrm_then ?_))
      refine cw_region ?_
      refine wl_m ?_
      refine wl_val rfl (ex_add_i64 rfl rfl (by omega) (by omega)) ?_
      refine wl_a ?_
      refine wl_nil (nrm_same ?_)
      refine ⟨(j + 1, _), ?_, ⟨rfl, rfl, trivial⟩, ⟨rfl, rfl, rfl, rfl, trivial⟩, hV8, ?_⟩
      · (try dsimp only); omega
      ·skip
       try dsimp only
       refine ⟨by omega, by omega, fun h => by omega, fun h => ?_, fun h => ?_, fun h => ?_⟩
       · obtain rfl : j = 1 := by omega
         have := g1 rfl; omega
       · obtain rfl : j = 2 := by omega
         have := g2 rfl; omega
       · obtain rfl : j = 3 := by omega
         have := g3 rfl; omega
     ·skip
      refine cw_exit (ex_then (ex_then (ex_here (nrm_then ?_))))
      refine cw_seq ?_
      refine cw_region ?_
      refine wl_m ?_
      refine wl_a ?_
      refine wl_nil (nrm_then ?_)
      refine cw_ret (body_ret1 rfl rfl ?_)
      refine ⟨?_, hE9⟩
      obtain rfl : j = k := by omega
      congr 1
      unfold guessB
      repeat' split at hx2
      all_goals (repeat' split)
      all_goals omega

theorem refNext_ok {w : World} (s : ByteArray) (a : Nat) (ha : a ≤ s.size) (hl : s.size ≤ 140737488355328) : Calls Try.prog 60 #[.string s, .int .i64 (a : Nat)] w (Ret fun v w' => v = .tuple #[.int .i32 (nextR s a).1, .int .i64 ((nextR s a).2 : Nat)] ∧ Evo [] w w') := by
  refine calls_of_cw (N := 52) Try.func60 rfl rfl rfl ?_
  refine cw_seq ?_
  refine cw_region ?_
  refine wl_a ?_
  refine wl_a ?_
  refine wl_nil (nrm_then ?_)
  refine cw_seq ?_
  refine cw_seq ?_
  refine cw_region ?_
  refine wl_m ?_
  refine wl_val rfl (ex_lss rfl rfl) ?_
  refine wl_m ?_
  refine wl_split (t := 11) rfl (fun hs11 => ?_) (fun hs11 => ?_)
  ·skip
   refine wl_n ?_
   refine wl_n ?_
   refine wl_n ?_
   refine wl_n ?_
   refine wl_pt ?_
   refine wl_nil (nrm_then ?_)
   refine cw_true rfl ?_
   refine cw_seq ?_
   refine cw_region ?_
   refine wl_a ?_
   refine wl_a ?_
   refine wl_nil (nrm_then ?_)
   refine cw_ret (ret_then (body_ret2 rfl rfl rfl ?_))
   exfalso; omega
  ·skip
   refine wl_g ?_
   refine wl_m ?_
   refine wl_g ?_
   refine wl_m ?_
   refine wl_g ?_
   refine wl_val rfl (ex_len_str rfl Try.underlying9 rfl) ?_
   refine wl_g ?_
   refine wl_val rfl (ex_geq rfl rfl) ?_
   refine wl_pf ?_
   refine wl_nil (nrm_then ?_)
   refine cw_if rfl (fun hc16 => ?_) (fun hc16 => ?_)
   ·skip
    refine cw_seq ?_
    refine cw_region ?_
    refine wl_a ?_
    refine wl_a ?_
    refine wl_nil (nrm_then ?_)
    refine cw_ret (ret_then (body_ret2 rfl rfl rfl ?_))
    exact ⟨by rw [next_out (by omega)]; rfl, (Evo.refl [] w)⟩
   ·skip
    refine cw_skip (nrm_then ?_)
    refine cw_seq ?_
    refine cw_seq ?_
    refine cw_region ?_
    refine wl_a ?_
    refine wl_nil (nrm_then ?_)
    refine cw_block ?_
    refine cw_loop (α := Nat) (1) (fun k => [(6, .int .i64 (k : Nat))]) [(0, _), (1, _)] (fun k wr => Evo [] w wr ∧ (1 ≤ k ∧ k ≤ 5 ∧ ∀ w, 1 ≤ w → w < k → a + w ≤ s.size → ¬ Hit s a w)) (fun k => 5 - k) ⟨rfl, trivial⟩ ⟨rfl, rfl, trivial⟩ ⟨Evo.refl _ _, ⟨by omega, by omega, fun w h1 h2 => by omega⟩⟩ ?_
    rintro k wr1 ⟨hV2, ⟨h1, h2, hno⟩⟩
    show CW _ _ _ _ [(6, _), (0, _), (1, _)] _
    have hE3 := (Evo.refl [] w).then hV2
    refine cw_seq ?_
    refine cw_seq ?_
    refine cw_region ?_
    refine wl_m ?_
    refine wl_val rfl (ex_leq rfl rfl) ?_
    refine wl_m ?_
    refine wl_split (t := 19) rfl (fun hs19 => ?_) (fun hs19 => ?_)
    ·skip
     refine wl_g ?_
     refine wl_m ?_
     refine wl_g ?_
     refine wl_m ?_
     refine wl_g ?_
     refine wl_val rfl (ex_len_str rfl Try.underlying9 rfl) ?_
     refine wl_g ?_
     refine wl_m ?_
     refine wl_g ?_
     refine wl_val rfl (ex_sub_i64 rfl rfl (by omega) (by omega)) ?_
     refine wl_g ?_
     refine wl_val rfl (ex_leq rfl rfl) ?_
     refine wl_pt ?_
     refine wl_nil (nrm_then ?_)
     refine cw_if rfl (fun hc26 => ?_) (fun hc26 => ?_)
     ·skip
      refine cw_skip (nrm_then ?_)
      refine cw_seq ?_
      refine cw_block ?_
      refine cw_seq ?_
      refine cw_region ?_
      refine wl_m ?_
      refine wl_m ?_
      refine wl_m ?_
      refine wl_call1 (vs := [_, _, _]) Try.goes80 rfl (guess_ok s a k (by omega) (by omega) (by omega) hl) rfl ?_
      rintro _ w4 ⟨rfl, hw5⟩
      have hE6 := hE3.then hw5
      have hE7 := hV2.then hw5
      have hgb : -9223372036854775808 ≤ guessB s a k ∧ guessB s a k ≤ 9223372036854775807 := by have := guess_bound s a k; omega
      refine wl_a ?_
      refine wl_nil (nrm_then ?_)
      refine cw_seq ?_
      refine cw_region ?_
      refine wl_m ?_
      refine wl_call1 (vs := [_]) Try.goes81 rfl (form_ok _ hgb.1 hgb.2) rfl ?_
      rintro _ w8 ⟨rfl, hw9⟩
      have hE10 := hE6.then hw9
      have hE11 := hE7.then hw9
      refine wl_a ?_
      refine wl_nil (nrm_then ?_)
      refine cw_seq ?_
      refine cw_region ?_
      refine wl_m ?_
      refine wl_val rfl (ex_len_str rfl Try.underlying9 rfl) ?_
      refine wl_m ?_
      refine wl_val rfl (ex_eql rfl rfl) ?_
      refine wl_m ?_
      refine wl_split (t := 39) rfl (fun hs39 => ?_) (fun hs39 => ?_)
      ·skip
       refine wl_g ?_
       refine wl_m ?_
       refine wl_g ?_
       refine wl_m ?_
       refine wl_g ?_
       refine wl_m ?_
       refine wl_g ?_
       refine wl_m ?_
       refine wl_g ?_
       refine wl_val rfl (ex_add_i64 rfl rfl (by omega) (by omega)) ?_
       refine wl_g ?_
       refine wl_val rfl (ex_ssub (l := a) (h := a + k) rfl rfl rfl Try.underlying9 rfl (by omega) (by omega) (by omega)) ?_
       refine wl_g ?_
       refine wl_m ?_
       refine wl_g ?_
       refine wl_val rfl (ex_eqs rfl rfl) ?_
       refine wl_pt ?_
       refine wl_nil (nrm_then ?_)
       refine cw_if rfl (fun hc48 => ?_) (fun hc48 => ?_)
       ·skip
        have hit : Hit s a k := (hit_eq (by omega)).2 (by assumption)
        have hn := next_hit (by omega) (by omega) (by omega) hit
        refine cw_seq ?_
        refine cw_region ?_
        refine wl_m ?_
        refine wl_val rfl (ex_convF rfl Try.underlying3 Try.underlying21 (by simp [IntKind.min, IntKind.signed, IntKind.bits]; omega) (by simp [IntKind.max, IntKind.signed, IntKind.bits]; omega)) ?_
        refine wl_m ?_
        refine wl_a ?_
        refine wl_a ?_
        refine wl_nil (nrm_then ?_)
        refine cw_ret (ret_block (ret_then (ret_then (ret_block (ret_then (body_ret2 rfl rfl rfl ?_))))))
        exact ⟨by rw [hn.1], hE10⟩
       ·skip
        refine cw_skip (nrm_block (nrm_then ?_))
        refine cw_region ?_
        refine wl_m ?_
        refine wl_val rfl (ex_add_i64 rfl rfl (by omega) (by omega)) ?_
        refine wl_a ?_
        refine wl_nil (nrm_same ?_)
        refine ⟨k + 1, ?_, ⟨rfl, trivial⟩, ⟨rfl, rfl, trivial⟩, hE11, ?_⟩
        · omega
        ·skip
         refine ⟨by omega, by omega, fun w h3 h4 h5 => ?_⟩
         by_cases hw : w < k
         · exact hno w h3 hw h5
         · obtain rfl : w = k := by omega
           intro hit
           first | exact hc48 ((hit_eq (by omega)).1 hit) | exact hs39 (by rw [bstr_size, hit_len hit])
      ·skip
       refine wl_n ?_
       refine wl_n ?_
       refine wl_n ?_
       refine wl_n ?_
       refine wl_n ?_
       refine wl_n ?_
       refine wl_n ?_
       refine wl_n ?_
       refine wl_pf ?_
       refine wl_nil (nrm_then ?_)
       refine cw_false rfl ?_
       refine cw_skip (nrm_block (nrm_then ?_))
       refine cw_region ?_
       refine wl_m ?_
       refine wl_val rfl (ex_add_i64 rfl rfl (by omega) (by omega)) ?_
       refine wl_a ?_
       refine wl_nil (nrm_same ?_)
       refine ⟨k + 1, ?_, ⟨rfl, trivial⟩, ⟨rfl, rfl, trivial⟩, hE11, ?_⟩
       · omega
       ·skip
        refine ⟨by omega, by omega, fun w h3 h4 h5 => ?_⟩
        by_cases hw : w < k
        · exact hno w h3 hw h5
        · obtain rfl : w = k := by omega
          intro hit
          first | exact hc48 ((hit_eq (by omega)).1 hit) | exact hs39 (by rw [bstr_size, hit_len hit])
     ·skip
      refine cw_exit (ex_then (ex_then (ex_here (nrm_then ?_))))
      refine cw_seq ?_
      refine cw_region ?_
      refine wl_a ?_
      refine wl_a ?_
      refine wl_nil (nrm_then ?_)
      refine cw_ret (body_ret2 rfl rfl rfl ?_)
      exact ⟨by rw [next_none fun w h3 h4 h5 => hno w h3 (by omega) h5]; rfl, hE3⟩
    ·skip
     refine wl_n ?_
     refine wl_n ?_
     refine wl_n ?_
     refine wl_n ?_
     refine wl_n ?_
     refine wl_n ?_
     refine wl_pf ?_
     refine wl_nil (nrm_then ?_)
     refine cw_false rfl ?_
     refine cw_exit (ex_then (ex_then (ex_here (nrm_then ?_))))
     refine cw_seq ?_
     refine cw_region ?_
     refine wl_a ?_
     refine wl_a ?_
     refine wl_nil (nrm_then ?_)
     refine cw_ret (body_ret2 rfl rfl rfl ?_)
     exact ⟨by rw [next_none fun w h3 h4 h5 => hno w h3 (by omega) h5]; rfl, hE3⟩

theorem width_ok {w : World} (r : Int) : Calls Try.prog 88 #[.int .i32 r] w (Ret fun v w' => v = .int .i64 (if r < 128 then 1 else if r < 2048 then 2 else if r < 65536 then 3 else 4) ∧ Evo [] w w') := by
  refine calls_of_cw (N := 12) Try.func88 rfl rfl rfl ?_
  refine cw_seq ?_
  refine cw_region ?_
  refine wl_a ?_
  refine wl_nil (nrm_then ?_)
  refine cw_seq ?_
  refine cw_block ?_
  refine cw_seq ?_
  refine cw_region ?_
  refine wl_m ?_
  refine wl_val rfl (ex_lss rfl rfl) ?_
  refine wl_a ?_
  refine wl_nil (nrm_then ?_)
  refine cw_if rfl (fun hc3 => ?_) (fun hc3 => ?_)
  ·skip
   refine cw_seq ?_
   refine cw_region ?_
   refine wl_a ?_
   refine wl_nil (nrm_then ?_)
   refine cw_ret (ret_block (ret_then (body_ret1 rfl rfl ?_)))
   exact ⟨by congr 1; (repeat' split) <;> omega, (Evo.refl [] w)⟩
  ·skip
   refine cw_seq ?_
   refine cw_region ?_
   refine wl_m ?_
   refine wl_val rfl (ex_lss rfl rfl) ?_
   refine wl_a ?_
   refine wl_nil (nrm_then ?_)
   refine cw_if rfl (fun hc6 => ?_) (fun hc6 => ?_)
   ·skip
    refine cw_seq ?_
    refine cw_region ?_
    refine wl_a ?_
    refine wl_nil (nrm_then ?_)
    refine cw_ret (ret_block (ret_then (body_ret1 rfl rfl ?_)))
    exact ⟨by congr 1; (repeat' split) <;> omega, (Evo.refl [] w)⟩
   ·skip
    refine cw_seq ?_
    refine cw_region ?_
    refine wl_m ?_
    refine wl_val rfl (ex_lss rfl rfl) ?_
    refine wl_a ?_
    refine wl_nil (nrm_then ?_)
    refine cw_if rfl (fun hc9 => ?_) (fun hc9 => ?_)
    ·skip
     refine cw_seq ?_
     refine cw_region ?_
     refine wl_a ?_
     refine wl_nil (nrm_then ?_)
     refine cw_ret (ret_block (ret_then (body_ret1 rfl rfl ?_)))
     exact ⟨by congr 1; (repeat' split) <;> omega, (Evo.refl [] w)⟩
    ·skip
     refine cw_skip (nrm_block (nrm_then ?_))
     refine cw_seq ?_
     refine cw_region ?_
     refine wl_a ?_
     refine wl_nil (nrm_then ?_)
     refine cw_ret (body_ret1 rfl rfl ?_)
     exact ⟨by congr 1; (repeat' split) <;> omega, (Evo.refl [] w)⟩

theorem replaced_ok {w : World} (s : ByteArray) (a : Nat) (ha : a ≤ s.size) (hl : s.size ≤ 140737488355328) : Calls Try.prog 87 #[.string s, .int .i64 (a : Nat)] w (Ret fun v w' => v = .bool (decide (a + 3 ≤ s.size ∧ s.extract a (a + 3) = bstr [239, 191, 189])) ∧ Evo [] w w') := by
  refine calls_of_cw (N := 18) Try.func87 rfl rfl rfl ?_
  refine cw_seq ?_
  refine cw_region ?_
  refine wl_a ?_
  refine wl_nil (nrm_then ?_)
  refine cw_seq ?_
  refine cw_region ?_
  refine wl_m ?_
  refine wl_val rfl (ex_add_i64 rfl rfl (by omega) (by omega)) ?_
  refine wl_m ?_
  refine wl_val rfl (ex_len_str rfl Try.underlying9 rfl) ?_
  refine wl_val rfl (ex_leq rfl rfl) ?_
  refine wl_m ?_
  refine wl_split (t := 10) rfl (fun hs10 => ?_) (fun hs10 => ?_)
  ·skip
   refine wl_g ?_
   refine wl_m ?_
   refine wl_g ?_
   refine wl_m ?_
   refine wl_g ?_
   refine wl_m ?_
   refine wl_g ?_
   refine wl_val rfl (ex_add_i64 rfl rfl (by omega) (by omega)) ?_
   refine wl_g ?_
   refine wl_val rfl (ex_ssub (l := a) (h := a + 3) rfl rfl rfl Try.underlying9 rfl (by omega) (by omega) (by omega)) ?_
   refine wl_g ?_
   refine wl_val rfl (ex_eqs rfl rfl) ?_
   refine wl_pt ?_
   refine wl_a ?_
   refine wl_nil (nrm_then ?_)
   refine cw_ret (body_ret1 rfl rfl ?_)
   refine ⟨congrArg Value.bool (decide_eq_decide.2 ?_), (Evo.refl [] w)⟩
   constructor
   · exact fun h => ⟨by omega, h⟩
   · exact fun h => h.2
  ·skip
   refine wl_n ?_
   refine wl_n ?_
   refine wl_n ?_
   refine wl_n ?_
   refine wl_n ?_
   refine wl_n ?_
   refine wl_pf ?_
   refine wl_a ?_
   refine wl_nil (nrm_then ?_)
   refine cw_ret (body_ret1 rfl rfl ?_)
   exact ⟨congrArg Value.bool (decide_eq_false (by omega)).symm, (Evo.refl [] w)⟩


theorem nextR_bad {s : ByteArray} {a : Nat} (ha : a < s.size) (h : (Utf8.decode s a).1 = 65533) (hr : ¬ (a + 3 ≤ s.size ∧ s.extract a (a + 3) = bstr [239, 191, 189])) : nextR s a = (-1, 0) := by
  have h1 := decode_fffd s a h ha
  have h2 := decode_repl s a h ha
  unfold nextR
  rw [if_neg]
  rintro ⟨_, h3⟩
  rcases h1 with h1 | h1
  · exact h3 ⟨h, h1⟩
  · exact hr (h2.1 h1)
theorem nextR_good {s : ByteArray} {a : Nat} (ha : a < s.size) (h : ¬ (Utf8.decode s a).1 = 65533 ∨ (a + 3 ≤ s.size ∧ s.extract a (a + 3) = bstr [239, 191, 189])) :
    (nextR s a).1 = ((Utf8.decode s a).1 : Nat) ∧ (((nextR s a).2 : Nat) : Int) = if ((Utf8.decode s a).1 : Int) < 128 then 1 else if ((Utf8.decode s a).1 : Int) < 2048 then 2 else if ((Utf8.decode s a).1 : Int) < 65536 then 3 else 4 := by
  have hn : ¬ ((Utf8.decode s a).1 = 65533 ∧ (Utf8.decode s a).2 = 1) := fun ⟨h1, h2⟩ => by
    rcases h with h | h
    · exact h h1
    · rw [(decode_repl s a h1 ha).2 h] at h2; cases h2
  have hw := decode_width s a ha hn
  unfold nextR
  rw [if_pos ⟨ha, hn⟩]
  refine ⟨rfl, ?_⟩
  simp only
  rw [hw]
  repeat' split
  all_goals first | rfl | omega

theorem next_ok {w : World} (s : ByteArray) (a : Nat) (ha : a ≤ s.size) (hl : s.size ≤ 140737488355328) : Calls Try.prog 70 #[.string s, .int .i64 (a : Nat)] w (Ret fun v w' => v = .tuple #[.int .i32 (nextR s a).1, .int .i64 ((nextR s a).2 : Nat)] ∧ Evo [] w w') := by
  refine calls_of_cw (N := 44) Try.func70 rfl rfl rfl ?_
  refine cw_seq ?_
  refine cw_region ?_
  refine wl_a ?_
  refine wl_a ?_
  refine wl_nil (nrm_then ?_)
  refine cw_seq ?_
  refine cw_seq ?_
  refine cw_region ?_
  refine wl_m ?_
  refine wl_val rfl (ex_lss rfl rfl) ?_
  refine wl_m ?_
  refine wl_split (t := 10) rfl (fun hs10 => ?_) (fun hs10 => ?_)
  ·skip
   refine wl_n ?_
   refine wl_n ?_
   refine wl_n ?_
   refine wl_n ?_
   refine wl_pt ?_
   refine wl_nil (nrm_then ?_)
   refine cw_true rfl ?_
   refine cw_seq ?_
   refine cw_region ?_
   refine wl_a ?_
   refine wl_a ?_
   refine wl_nil (nrm_then ?_)
   refine cw_ret (ret_then (body_ret2 rfl rfl rfl ?_))
   exfalso; omega
  ·skip
   refine wl_g ?_
   refine wl_m ?_
   refine wl_g ?_
   refine wl_m ?_
   refine wl_g ?_
   refine wl_val rfl (ex_len_str rfl Try.underlying9 rfl) ?_
   refine wl_g ?_
   refine wl_val rfl (ex_geq rfl rfl) ?_
   refine wl_pf ?_
   refine wl_nil (nrm_then ?_)
   refine cw_if rfl (fun hc15 => ?_) (fun hc15 => ?_)
   ·skip
    refine cw_seq ?_
    refine cw_region ?_
    refine wl_a ?_
    refine wl_a ?_
    refine wl_nil (nrm_then ?_)
    refine cw_ret (ret_then (body_ret2 rfl rfl rfl ?_))
    exact ⟨by rw [next_out (by omega)]; rfl, (Evo.refl [] w)⟩
   ·skip
    refine cw_skip (nrm_then ?_)
    refine cw_seq ?_
    refine cw_seq ?_
    refine cw_region ?_
    have hlt : a < s.size := by omega
    refine wl_m ?_
    refine wl_m ?_
    refine wl_m ?_
    refine wl_val rfl (ex_len_str rfl Try.underlying9 rfl) ?_
    refine wl_m ?_
    refine wl_val rfl (ex_add_i64 rfl rfl (by omega) (by omega)) ?_
    refine wl_val rfl (ex_min rfl rfl) ?_
    refine wl_val rfl (ex_ssub (l := a) (h := min s.size (a + 4)) rfl rfl rfl Try.underlying9 rfl (by split <;> omega) (by omega) (by omega)) ?_
    refine wl_rangeS rfl rfl Try.underlying9 fun b1 w2 hB3 hs4 hw5 => ?_
    have hG6 := Ge.new (Evo.refl [] w) hs4
    have hE7 := (Evo.refl [] w).then hw5
    refine wl_nil (nrm_then ?_)
    refine cw_block ?_
    refine cw_loop (α := Nat) (0) (fun k => []) [(0, _), (1, _), (24, _)] (fun k wr => Evo [] w2 wr ∧ (True)) (fun k => 0) trivial ⟨rfl, rfl, rfl, trivial⟩ ⟨Evo.refl _ _, trivial⟩ ?_
    rintro k wr8 ⟨hV9, _⟩
    show CW _ _ _ _ [(0, _), (1, _), (24, _)] _
    have hE10 := hE7.then hV9
    have hB11 := hV9.blk0 hB3
    refine cw_seq ?_
    refine cw_region ?_
    refine wl_nextS rfl rfl hB11 (by simp; omega) fun w12 hB13 hw14 => ?_
    have hE15 := hE10.step hw14 hG6.mem1
    have hcut := decode_cut s a hlt
    refine wl_val rfl (ex_extract rfl rfl) ?_
    refine wl_nil (nrm_then ?_)
    refine cw_seq ?_
    refine cw_true rfl ?_
    refine cw_skip (nrm_then ?_)
    refine cw_block ?_
    refine cw_seq ?_
    refine cw_region ?_
    refine wl_val rfl (ex_extract rfl rfl) ?_
    refine wl_val rfl (ex_extract rfl rfl) ?_
    refine wl_a ?_
    refine wl_a ?_
    refine wl_nil (nrm_then ?_)
    refine cw_seq ?_
    refine cw_seq ?_
    refine cw_region ?_
    refine wl_m ?_
    refine wl_val rfl (ex_gtr rfl rfl) ?_
    refine wl_m ?_
    refine wl_split (t := 31) rfl (fun hs31 => ?_) (fun hs31 => ?_)
    ·skip
     refine wl_n ?_
     refine wl_n ?_
     refine wl_n ?_
     refine wl_u ?_
     refine wl_u ?_
     refine wl_u ?_
     refine wl_u ?_
     refine wl_n ?_
     refine wl_pt ?_
     refine wl_nil (nrm_then ?_)
     refine cw_true rfl ?_
     refine cw_exit (ex_then (ex_past rfl (ex_then (ex_here (nrm_then ?_)))))
     refine cw_seq ?_
     refine cw_region ?_
     refine wl_a ?_
     refine wl_a ?_
     refine wl_nil (nrm_then ?_)
     refine cw_ret (body_ret2 rfl rfl rfl ?_)
     exfalso; omega
    ·skip
     refine wl_g ?_
     refine wl_m ?_
     refine wl_g ?_
     refine wl_val rfl (ex_eql rfl rfl) ?_
     refine wl_g ?_
     refine wl_m ?_
     refine wl_split (t := 34) rfl (fun hs34 => ?_) (fun hs34 => ?_)
     ·skip
      refine wl_g ?_
      refine wl_m ?_
      refine wl_g ?_
      refine wl_m ?_
      refine wl_g ?_
      refine wl_call1 (vs := [_, _]) Try.goes87 rfl (replaced_ok s a (by omega) hl) rfl ?_
      rintro _ w17 ⟨rfl, hw18⟩
      have hE19 := hE15.then hw18
      have hB20 := hw18.blk0 hB13
      refine wl_g ?_
      refine wl_val rfl (ex_not rfl) ?_
      refine wl_g ?_
      refine wl_pt ?_
      refine wl_pf ?_
      refine wl_nil (nrm_then ?_)
      refine cw_if rfl (fun hc40 => ?_) (fun hc40 => ?_)
      ·skip
       refine cw_exit (ex_then (ex_past rfl (ex_then (ex_here (nrm_then ?_)))))
       refine cw_seq ?_
       refine cw_region ?_
       refine wl_a ?_
       refine wl_a ?_
       refine wl_nil (nrm_then ?_)
       refine cw_ret (body_ret2 rfl rfl rfl ?_)
       rw [hcut] at hs34
       exact ⟨by rw [nextR_bad hlt (by omega) hc40]; rfl, hE19⟩
      ·skip
       refine cw_skip (nrm_then ?_)
       refine cw_seq ?_
       refine cw_region ?_
       refine wl_m ?_
       refine wl_m ?_
       refine wl_call1 (vs := [_]) Try.goes88 rfl (width_ok _) rfl ?_
       rintro _ w21 ⟨rfl, hw22⟩
       have hE23 := hE19.then hw22
       have hB24 := hw22.blk0 hB20
       refine wl_a ?_
       refine wl_a ?_
       refine wl_nil (nrm_then ?_)
       refine cw_ret (ret_block (ret_then (ret_block (ret_then (body_ret2 rfl rfl rfl ?_)))))
       rw [hcut] at hs34 ⊢
       have hg := nextR_good hlt (.inr (Decidable.not_not.1 hc40))
       exact ⟨by rw [hg.1, hg.2]; rfl, hE23⟩
     ·skip
      refine wl_n ?_
      refine wl_n ?_
      refine wl_n ?_
      refine wl_n ?_
      refine wl_g ?_
      refine wl_pf ?_
      refine wl_pf ?_
      refine wl_nil (nrm_then ?_)
      refine cw_false rfl ?_
      refine cw_skip (nrm_then ?_)
      refine cw_seq ?_
      refine cw_region ?_
      refine wl_m ?_
      refine wl_m ?_
      refine wl_call1 (vs := [_]) Try.goes88 rfl (width_ok _) rfl ?_
      rintro _ w25 ⟨rfl, hw26⟩
      have hE27 := hE15.then hw26
      have hB28 := hw26.blk0 hB13
      refine wl_a ?_
      refine wl_a ?_
      refine wl_nil (nrm_then ?_)
      refine cw_ret (ret_block (ret_then (ret_block (ret_then (body_ret2 rfl rfl rfl ?_)))))
      rw [hcut] at hs34 ⊢
      have hg := nextR_good hlt (.inl (by omega))
      exact ⟨by rw [hg.1, hg.2]; rfl, hE27⟩

end Go.Proofs.Ytgboffefbpligaa
