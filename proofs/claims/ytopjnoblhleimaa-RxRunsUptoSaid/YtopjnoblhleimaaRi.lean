/- The walks of same, unchanged and copied. -/
import Derived.Test.YtopjnoblhleimaaRh
namespace Go.Proofs.Ytopjnoblhleimaa
open Go.Proofs
open Go.W
attribute [local irreducible] Decidable.decide
set_option linter.unusedSimpArgs false
set_option linter.unusedVariables false
theorem Try.app22_22 : appB Try.prog 22 22 = some (29, 5, 56) := by kernel_rfl
theorem Try.app23_23 : appB Try.prog 23 23 = some (9, 1, 16) := by kernel_rfl
theorem Try.app27_27 : appB Try.prog 27 27 = some (66, 2, 8) := by kernel_rfl
theorem Try.build25 : Build Try.prog 25 #[(0, 1), (1, 1), (2, 1), (3, 1)] #[.slice none 0 0, .int .i64 0, .int .i64 0, .slice none 0 0] := ⟨_, .agg #[.slice none 0 0, .int .i64 0, .int .i64 0, .slice none 0 0], Try.underlying25, by kernel_rfl, rfl, fun w => by kernel_rfl⟩
theorem Try.size22 : sizeB Try.prog 22 = some 1 := by kernel_rfl
theorem Try.size27 : sizeB Try.prog 27 = some 1 := by kernel_rfl
theorem Try.slice22 : sliceB Try.prog 22 = some (29, 5) := by kernel_rfl
theorem Try.slice23 : sliceB Try.prog 23 = some (9, 1) := by kernel_rfl
theorem Try.slice27 : sliceB Try.prog 27 = some (66, 2) := by kernel_rfl
theorem Try.zero25 : zeroB Try.prog 25 = some #[.slice none 0 0, .int .i64 0, .int .i64 0, .slice none 0 0] := by kernel_rfl


def RZ : Rel Int := fun _ _ vs z => vs = [iv z]
theorem RZ.pers : RZ.Pers := fun _ _ _ _ _ _ h => h
theorem RZ.fresh : RZ.Fresh := fun _ _ _ _ _ _ h => h
theorem own_rz {X : List Nat} {w : World} {e : TypeId} {a : Option Addr} {n c : Nat} {l : List Int} {ob : Option Nat} (h : OwnS w e 1 a n c (l.map iv) ob) (hx : ∀ g, ob = some g → g ∉ X) : RSl 1 RZ X w (.slice a n c) l := by
  have e1 : (l.map fun z => [iv z]).flatten = l.map iv := by clear h; induction l with | nil => rfl | cons z l ih => simpa using ih
  have hl := h.length
  rw [← e1] at h
  exact RSl.ofOwn h ⟨by simp, fun k h1 h2 => by simp only [List.getElem_map]; exact ⟨rfl, rfl⟩⟩ (by simpa using hl) hx
theorem rows_stepG {α : Type} {R : Rel α} {sz : Nat} (hp : R.Pers) (hf : R.Fresh) {X X' : List Nat} {w w' : World} {rows : List (List Value)} {ds : List α} (h : RowsOk sz R X w rows ds) (he : Evo X w w') (hx : ∀ y, y ∈ X' → y ∈ X ∨ w.heap.size ≤ y) : RowsOk sz R X' w' rows ds :=
  ((h.fresh hf (Y := X ++ X') (fun y hy => by rcases List.mem_append.1 hy with h | h; { exact .inl h }; { exact hx y h })).evo hp (he.mono (fun b hb => List.mem_append_left _ hb))).fresh hf (fun y hy => .inl (List.mem_append_right _ hy))

theorem same_ok {X Y : List Nat} {w : World} {v1 v2 : Value} {d1 d2 : List Int} (h1 : RSl 1 RZ X w v1 d1) (h2 : RSl 1 RZ Y w v2 d2) (hl : d1.length ≤ 140737488355328) (hl' : d2.length ≤ 140737488355328) :
    Calls Try.prog 9 #[v1, v2] w (Ret fun v w' => v = .bool (decide (d1 = d2)) ∧ Evo [] w w') := by
  obtain ⟨a1, c1, rfl, hlc1, e1⟩ := h1
  obtain ⟨a2, c2, rfl, hlc2, e2⟩ := h2
  refine calls_of_cw (N := 26) Try.func9 rfl rfl rfl ?_
  refine cw_seq ?_
  refine cw_region ?_
  refine wl_val rfl (ex_assign rfl) ?_
  refine wl_nil (nrm_then ?_)
  refine cw_seq ?_
  refine cw_seq ?_
  refine cw_region ?_
  refine wl_val rfl (ex_move rfl) ?_
  refine wl_val rfl (ex_len_slice rfl Try.underlying33 rfl) ?_
  refine wl_val rfl (ex_move rfl) ?_
  refine wl_val rfl (ex_len_slice rfl Try.underlying33 rfl) ?_
  refine wl_val rfl (ex_neq rfl rfl) ?_
  refine wl_nil (nrm_then ?_)
  refine cw_if rfl (fun hc10 => ?_) (fun hc10 => ?_)
  · skip
    refine cw_seq ?_
    refine cw_region ?_
    refine wl_val rfl (ex_assign rfl) ?_
    refine wl_nil (nrm_then ?_)
    refine cw_ret (ret_then (body_ret1 rfl rfl ?_))
    exact ⟨congrArg Value.bool (decide_eq_false (fun h => hc10 (by rw [h]))).symm, (Evo.refl [] w)⟩
  · skip
    refine cw_skip (nrm_then ?_)
    refine cw_seq ?_
    refine cw_seq ?_
    refine cw_region ?_
    refine wl_val rfl (ex_move rfl) ?_
    refine wl_val rfl (ex_len_slice rfl Try.underlying33 rfl) ?_
    refine wl_val rfl (ex_move rfl) ?_
    refine wl_nil (nrm_then ?_)
    refine cw_block ?_
    refine cw_loop (α := Nat) (0) (fun k => [(13, .int .i64 (k : Nat))]) [(0, _), (1, _), (12, _)] (fun k wr => Evo [] w wr ∧ (k ≤ d1.length ∧ d1.take k = d2.take k)) (fun k => d1.length - k) ⟨rfl, trivial⟩ ⟨rfl, rfl, rfl, trivial⟩ ⟨Evo.refl _ _, ⟨Nat.zero_le _, rfl⟩⟩ ?_
    rintro k wr1 ⟨hV2, ⟨hk, hpre⟩⟩
    show CW _ _ _ _ [(13, _), (0, _), (1, _), (12, _)] _
    have hE3 := (Evo.refl [] w).then hV2
    refine cw_seq ?_
    refine cw_region ?_
    refine wl_val rfl (ex_lss rfl rfl) ?_
    refine wl_nil (nrm_then ?_)
    refine cw_seq ?_
    refine cw_if rfl (fun hc14 => ?_) (fun hc14 => ?_)
    · skip
      obtain ⟨b1, o1, vs1, ha1, hb1, -, hc1, rfl⟩ := e1 k (by omega)
      obtain ⟨b2, o2, vs2, ha2, hb2, -, hc2, rfl⟩ := e2 k (by omega)
      refine cw_skip (nrm_then ?_)
      refine cw_seq ?_
      refine cw_block ?_
      refine cw_seq ?_
      refine cw_region ?_
      refine wl_val rfl (ex_move rfl) ?_
      refine wl_val rfl (ex_assign rfl) ?_
      refine wl_nil (nrm_then ?_)
      refine cw_seq ?_
      refine cw_quiet (by kernel_rfl) (by kernel_rfl) ?_
      refine ql_val rfl (fun _ hq5 => ex_move rfl) ?_
      refine ql_val rfl (fun _ hq5 => ex_move rfl) ?_
      refine ql_val rfl (fun _ hq5 => ex_indexAddr (n := k) (by rw [ha1]; rfl) rfl Try.elem33 (by omega)) ?_
      refine ql_val rfl (fun _ hq5 => ex_load1 rfl Try.agg3 ((hc1.evo (((hE3.then hq5)).any X) hb1) 0 _ rfl)) ?_
      refine ql_val rfl (fun _ hq5 => ex_move rfl) ?_
      refine ql_val rfl (fun _ hq5 => ex_move rfl) ?_
      refine ql_val rfl (fun _ hq5 => ex_indexAddr (n := k) (by rw [ha2]; rfl) rfl Try.elem33 (by omega)) ?_
      refine ql_val rfl (fun _ hq5 => ex_load1 rfl Try.agg3 ((hc2.evo (((hE3.then hq5)).any Y) hb2) 0 _ rfl)) ?_
      refine ql_val rfl (fun _ hq5 => ex_neq rfl rfl) ?_
      refine ql_nil (fun wq4 hq5 => nrm_then ?_)
      have hE6 := hE3.then hq5
      have hE7 := hV2.then hq5
      refine cw_if rfl (fun hc24 => ?_) (fun hc24 => ?_)
      · skip
        refine cw_seq ?_
        refine cw_region ?_
        refine wl_val rfl (ex_assign rfl) ?_
        refine wl_nil (nrm_then ?_)
        refine cw_ret (ret_block (ret_then (ret_then (ret_block (ret_then (body_ret1 rfl rfl ?_))))))
        exact ⟨congrArg Value.bool (decide_eq_false (fun h => hc24 (by subst h; rfl))).symm, hE6⟩
      · skip
        refine cw_skip (nrm_block (nrm_then ?_))
        refine cw_region ?_
        refine wl_val rfl (ex_add_i64 rfl rfl (by omega) (by omega)) ?_
        refine wl_val rfl (ex_move rfl) ?_
        refine wl_nil (nrm_then ?_)
        refine ⟨k + 1, ?_, ⟨rfl, trivial⟩, ⟨rfl, rfl, rfl, trivial⟩, hE7, ?_⟩
        · omega
        · skip
          have h3 : d1[k] = d2[k] := by simpa using hc24
          exact ⟨by omega, by rw [List.take_succ_eq_append_getElem (by omega), List.take_succ_eq_append_getElem (by omega), hpre, h3]⟩
    · skip
      refine cw_exit (ex_then (ex_then (ex_here (nrm_then ?_))))
      refine cw_seq ?_
      refine cw_region ?_
      refine wl_val rfl (ex_assign rfl) ?_
      refine wl_nil (nrm_then ?_)
      refine cw_ret (body_ret1 rfl rfl ?_)
      exact ⟨congrArg Value.bool (decide_eq_true (by rw [List.take_of_length_le (by omega), List.take_of_length_le (by omega)] at hpre; exact hpre)).symm, hE3⟩

set_option maxHeartbeats 2000000 in
theorem unchanged_ok {X Y : List Nat} {w : World} {vs1 vs2 : List Value} {p : Prg} (h1 : RPrg X w vs1 p) (h2 : RPrg Y w vs2 p) :
    Calls Try.prog 14 #[.agg vs1.toArray, .agg vs2.toArray] w (Ret fun v w' => v = .bool true ∧ Evo [] w w') := by
  obtain ⟨hok1, pi1, pn1, rfl, hiv1, hnv1⟩ := h1
  obtain ⟨ai1, ci1, rfl, hli1, ei1⟩ := hiv1
  obtain ⟨an1, cn1, rfl, hln1, en1⟩ := hnv1
  obtain ⟨hok2, pi2, pn2, rfl, hiv2, hnv2⟩ := h2
  obtain ⟨ai2, ci2, rfl, hli2, ei2⟩ := hiv2
  obtain ⟨an2, cn2, rfl, hln2, en2⟩ := hnv2
  have hil := hok1.ilen
  have hnl := hok1.nlen
  refine calls_of_cw (N := 125) Try.func14 rfl rfl rfl ?_
  refine cw_seq ?_
  refine cw_region ?_
  refine wl_boxA rfl rfl fun b1 w2 hB3 hs4 hw5 => ?_
  have hG6 := Ge.new (Evo.refl [] w) hs4
  have hE7 := (Evo.refl [] w).then hw5
  refine wl_boxA rfl rfl fun b8 w9 hB10 hs11 hw12 => ?_
  have hA13 := Apart.new (Lt.blk hB3) hs11
  have hG14 := Ge.new hE7 hs11
  have hE15 := hE7.then hw12
  have hB16 := hw12.blk0 hB3
  refine wl_val rfl (ex_assign rfl) ?_
  refine wl_nil (nrm_then ?_)
  refine cw_seq ?_
  refine cw_seq ?_
  refine cw_region ?_
  refine wl_val rfl (ex_fieldAddr rfl Try.fld25_1) ?_
  refine wl_val rfl (ex_load1 rfl Try.agg3 (cell_nth hB16 rfl)) ?_
  refine wl_val rfl (ex_fieldAddr rfl Try.fld25_1) ?_
  refine wl_val rfl (ex_load1 rfl Try.agg3 (cell_nth hB10 rfl)) ?_
  refine wl_val rfl (ex_neq rfl rfl) ?_
  refine wl_val rfl (ex_move rfl) ?_
  refine wl_split (t := 15) rfl (fun hs15 => ?_) (fun hs15 => ?_)
  · skip
    exact absurd rfl hs15
  · skip
    refine wl_go rfl rfl rfl rfl ?_
    refine wl_val rfl (ex_fieldAddr rfl Try.fld25_2) ?_
    refine wl_go rfl rfl rfl rfl ?_
    refine wl_val rfl (ex_load1 rfl Try.agg3 (cell_nth hB16 rfl)) ?_
    refine wl_go rfl rfl rfl rfl ?_
    refine wl_val rfl (ex_fieldAddr rfl Try.fld25_2) ?_
    refine wl_go rfl rfl rfl rfl ?_
    refine wl_val rfl (ex_load1 rfl Try.agg3 (cell_nth hB10 rfl)) ?_
    refine wl_go rfl rfl rfl rfl ?_
    refine wl_val rfl (ex_neq rfl rfl) ?_
    refine wl_val rfl (ex_pick_f rfl rfl) ?_
    refine wl_val rfl (ex_move rfl) ?_
    refine wl_split (t := 22) rfl (fun hs22 => ?_) (fun hs22 => ?_)
    · skip
      exact absurd rfl hs22
    · skip
      refine wl_go rfl rfl rfl rfl ?_
      refine wl_val rfl (ex_fieldAddr rfl Try.fld25_3) ?_
      refine wl_go rfl rfl rfl rfl ?_
      refine wl_val rfl (ex_load1 rfl Try.agg23 (cell_nth hB16 rfl)) ?_
      refine wl_go rfl rfl rfl rfl ?_
      refine wl_val rfl (ex_len_slice rfl Try.underlying23 rfl) ?_
      refine wl_go rfl rfl rfl rfl ?_
      refine wl_val rfl (ex_fieldAddr rfl Try.fld25_3) ?_
      refine wl_go rfl rfl rfl rfl ?_
      refine wl_val rfl (ex_load1 rfl Try.agg23 (cell_nth hB10 rfl)) ?_
      refine wl_go rfl rfl rfl rfl ?_
      refine wl_val rfl (ex_len_slice rfl Try.underlying23 rfl) ?_
      refine wl_go rfl rfl rfl rfl ?_
      refine wl_val rfl (ex_neq rfl rfl) ?_
      refine wl_val rfl (ex_pick_f rfl rfl) ?_
      refine wl_val rfl (ex_move rfl) ?_
      refine wl_split (t := 31) rfl (fun hs31 => ?_) (fun hs31 => ?_)
      · skip
        exact absurd rfl hs31
      · skip
        refine wl_go rfl rfl rfl rfl ?_
        refine wl_val rfl (ex_fieldAddr rfl Try.fld25_0) ?_
        refine wl_go rfl rfl rfl rfl ?_
        refine wl_val rfl (ex_load1 rfl Try.agg22 (cell_nth hB16 rfl)) ?_
        refine wl_go rfl rfl rfl rfl ?_
        refine wl_val rfl (ex_len_slice rfl Try.underlying22 rfl) ?_
        refine wl_go rfl rfl rfl rfl ?_
        refine wl_val rfl (ex_fieldAddr rfl Try.fld25_0) ?_
        refine wl_go rfl rfl rfl rfl ?_
        refine wl_val rfl (ex_load1 rfl Try.agg22 (cell_nth hB10 rfl)) ?_
        refine wl_go rfl rfl rfl rfl ?_
        refine wl_val rfl (ex_len_slice rfl Try.underlying22 rfl) ?_
        refine wl_go rfl rfl rfl rfl ?_
        refine wl_val rfl (ex_neq rfl rfl) ?_
        refine wl_val rfl (ex_pick_f rfl rfl) ?_
        refine wl_nil (nrm_then ?_)
        refine cw_if rfl (fun hc39 => ?_) (fun hc39 => ?_)
        · skip
          refine cw_seq ?_
          refine cw_region ?_
          refine wl_val rfl (ex_assign rfl) ?_
          refine wl_nil (nrm_then ?_)
          refine cw_ret (ret_then (body_ret1 rfl rfl ?_))
          first | exact absurd rfl hc39 | (exfalso; omega) | (exfalso; simp at *; done)
        · skip
          refine cw_skip (nrm_then ?_)
          refine cw_seq ?_
          refine cw_seq ?_
          refine cw_region ?_
          refine wl_val rfl (ex_fieldAddr rfl Try.fld25_3) ?_
          refine wl_val rfl (ex_load1 rfl Try.agg23 (cell_nth hB16 rfl)) ?_
          refine wl_val rfl (ex_len_slice rfl Try.underlying23 rfl) ?_
          refine wl_val rfl (ex_move rfl) ?_
          refine wl_nil (nrm_then ?_)
          refine cw_block ?_
          refine cw_loop (α := Nat) (0) (fun k => [(43, .int .i64 (k : Nat))]) [(2, _), (3, _), (42, _)] (fun k wr => Evo [] w9 wr ∧ (k ≤ p.names.length)) (fun k => p.names.length - k) ⟨rfl, trivial⟩ ⟨rfl, rfl, rfl, trivial⟩ ⟨Evo.refl _ _, Nat.zero_le _⟩ ?_
          rintro k wr17 ⟨hV18, hk⟩
          show CW _ _ _ _ [(43, _), (2, _), (3, _), (42, _)] _
          have hE19 := hE15.then hV18
          have hB20 := hV18.blk0 hB16
          have hB21 := hV18.blk0 hB10
          refine cw_seq ?_
          refine cw_region ?_
          refine wl_val rfl (ex_lss rfl rfl) ?_
          refine wl_nil (nrm_then ?_)
          refine cw_seq ?_
          refine cw_if rfl (fun hc44 => ?_) (fun hc44 => ?_)
          · skip
            obtain ⟨b1, o1, x1, ha1, hb1, -, hc1, rfl⟩ := en1 k (by omega)
            obtain ⟨b2, o2, x2, ha2, hb2, -, hc2, rfl⟩ := en2 k (by omega)
            refine cw_skip (nrm_then ?_)
            refine cw_seq ?_
            refine cw_block ?_
            refine cw_seq ?_
            refine cw_region ?_
            refine wl_val rfl (ex_move rfl) ?_
            refine wl_val rfl (ex_assign rfl) ?_
            refine wl_nil (nrm_then ?_)
            refine cw_seq ?_
            refine cw_quiet (by kernel_rfl) (by kernel_rfl) ?_
            refine ql_val rfl (fun _ hq23 => ex_fieldAddr rfl Try.fld25_3) ?_
            refine ql_val rfl (fun _ hq23 => ex_load1 rfl Try.agg23 (cell_nth (hq23.blk0 hB20) rfl)) ?_
            refine ql_val rfl (fun _ hq23 => ex_move rfl) ?_
            refine ql_val rfl (fun _ hq23 => ex_indexAddr (n := k) (by rw [ha1]; rfl) rfl Try.elem23 (by omega)) ?_
            refine ql_val rfl (fun _ hq23 => ex_load1 rfl Try.agg9 ((hc1.evo (((hE19.then hq23)).any X) hb1) 0 _ rfl)) ?_
            refine ql_val rfl (fun _ hq23 => ex_fieldAddr rfl Try.fld25_3) ?_
            refine ql_val rfl (fun _ hq23 => ex_load1 rfl Try.agg23 (cell_nth (hq23.blk0 hB21) rfl)) ?_
            refine ql_val rfl (fun _ hq23 => ex_move rfl) ?_
            refine ql_val rfl (fun _ hq23 => ex_indexAddr (n := k) (by rw [ha2]; rfl) rfl Try.elem23 (by omega)) ?_
            refine ql_val rfl (fun _ hq23 => ex_load1 rfl Try.agg9 ((hc2.evo (((hE19.then hq23)).any Y) hb2) 0 _ rfl)) ?_
            refine ql_val rfl (fun _ hq23 => ex_neqs rfl rfl) ?_
            refine ql_nil (fun wq22 hq23 => nrm_then ?_)
            have hE24 := hE19.then hq23
            have hE25 := hV18.then hq23
            have hB26 := hq23.blk0 hB20
            have hB27 := hq23.blk0 hB21
            refine cw_if rfl (fun hc56 => ?_) (fun hc56 => ?_)
            · skip
              refine cw_seq ?_
              refine cw_region ?_
              refine wl_val rfl (ex_assign rfl) ?_
              refine wl_nil (nrm_then ?_)
              refine cw_ret (ret_block (ret_then (ret_then (ret_block (ret_then (body_ret1 rfl rfl ?_))))))
              exact absurd rfl hc56
            · skip
              refine cw_skip (nrm_block (nrm_then ?_))
              refine cw_region ?_
              refine wl_val rfl (ex_add_i64 rfl rfl (by omega) (by omega)) ?_
              refine wl_val rfl (ex_move rfl) ?_
              refine wl_nil (nrm_then ?_)
              refine ⟨k + 1, ?_, ⟨rfl, trivial⟩, ⟨rfl, rfl, rfl, trivial⟩, hE25, ?_⟩
              · omega
              · skip
                omega
          · skip
            refine cw_exit (ex_then (ex_then (ex_here (nrm_then ?_))))
            refine cw_seq ?_
            refine cw_seq ?_
            refine cw_region ?_
            refine wl_val rfl (ex_fieldAddr rfl Try.fld25_0) ?_
            refine wl_val rfl (ex_load1 rfl Try.agg22 (cell_nth hB20 rfl)) ?_
            refine wl_val rfl (ex_len_slice rfl Try.underlying22 rfl) ?_
            refine wl_val rfl (ex_move rfl) ?_
            refine wl_nil (nrm_then ?_)
            refine cw_block ?_
            refine cw_loop (α := Nat) (0) (fun k => [(61, .int .i64 (k : Nat))]) [(3, _), (59, _), (60, _)] (fun k wr => Evo [] wr17 wr ∧ (k ≤ p.insts.length)) (fun k => p.insts.length - k) ⟨rfl, trivial⟩ ⟨rfl, rfl, rfl, trivial⟩ ⟨Evo.refl _ _, Nat.zero_le _⟩ ?_
            rintro k wr28 ⟨hV29, hk⟩
            show CW _ _ _ _ [(61, _), (3, _), (59, _), (60, _)] _
            have hE30 := hE19.then hV29
            have hE31 := hV18.then hV29
            have hB32 := hV29.blk0 hB21
            refine cw_seq ?_
            refine cw_region ?_
            refine wl_val rfl (ex_lss rfl rfl) ?_
            refine wl_nil (nrm_then ?_)
            refine cw_seq ?_
            refine cw_if rfl (fun hc62 => ?_) (fun hc62 => ?_)
            · skip
              obtain ⟨b1, o1, x1, ha1, hb1, -, hc1, hr1⟩ := ei1 k (by omega)
              obtain ⟨b2, o2, x2, ha2, hb2, -, hc2, hr2⟩ := ei2 k (by omega)
              obtain ⟨hq1, rv1, rfl, hs1⟩ := hr1
              obtain ⟨hq2, rv2, rfl, hs2⟩ := hr2
              generalize p.insts[k] = z at *
              have hzl := hq1.len
              obtain ⟨ar1, cr1, rfl, hlr1, er1⟩ := hs1
              obtain ⟨ar2, cr2, rfl, hlr2, er2⟩ := hs2
              refine cw_skip (nrm_then ?_)
              refine cw_seq ?_
              refine cw_block ?_
              refine cw_seq ?_
              refine cw_region ?_
              refine wl_val rfl (ex_move rfl) ?_
              refine wl_val rfl (ex_indexAddr (n := k) (by rw [ha1]; rfl) rfl Try.elem22 (by omega)) ?_
              refine wl_val rfl (ex_loadA rfl Try.agg29 Try.size29 (vs := [_, _, _, _, _]) rfl (hc1.evo ((hE30).any X) hb1)) ?_
              refine wl_alloc rfl Try.zero29 fun b33 w34 hB35 hs36 hw37 => ?_
              have hA38 := Apart.new (Lt.blk hB32) hs36
              have hG39 := Ge.new hE30 hs36
              have hG40 := Ge.new hE31 hs36
              have hG41 := Ge.new hV29 hs36
              have hE42 := hE30.then hw37
              have hE43 := hE31.then hw37
              have hE44 := hV29.then hw37
              have hB45 := hw37.blk0 hB32
              refine wl_val rfl (ex_assign rfl) ?_
              refine wl_storeBlk rfl rfl Try.size29 hB35 rfl rfl ⟨by first | rfl | assumption, by first | rfl | assumption, by first | rfl | assumption, by first | rfl | assumption, by first | rfl | assumption, trivial⟩ fun w46 hB47 hw48 => ?_
              have hE49 := hE42.step hw48 hG39.mem1
              have hE50 := hE43.step hw48 hG40.mem1
              have hE51 := hE44.step hw48 hG41.mem1
              have hB52 := hw48.blk hB45 hA38.nmem1
              refine wl_nil (nrm_then ?_)
              refine cw_seq ?_
              refine cw_region ?_
              refine wl_val rfl (ex_fieldAddr rfl Try.fld25_0) ?_
              refine wl_val rfl (ex_load1 rfl Try.agg22 (cell_nth hB52 rfl)) ?_
              refine wl_val rfl (ex_move rfl) ?_
              refine wl_val rfl (ex_indexAddr (n := k) (by rw [ha2]; rfl) rfl Try.elem22 (by omega)) ?_
              refine wl_val rfl (ex_loadA rfl Try.agg29 Try.size29 (vs := [_, _, _, _, _]) rfl (hc2.evo ((hE49).any Y) hb2)) ?_
              refine wl_alloc rfl Try.zero29 fun b53 w54 hB55 hs56 hw57 => ?_
              have hA58 := Apart.new (Lt.blk hB52) hs56
              have hA59 := Apart.new (Lt.blk hB47) hs56
              have hG60 := Ge.new hE49 hs56
              have hG61 := Ge.new hE50 hs56
              have hG62 := Ge.new hE51 hs56
              have hE63 := hE49.then hw57
              have hE64 := hE50.then hw57
              have hE65 := hE51.then hw57
              have hB66 := hw57.blk0 hB52
              have hB67 := hw57.blk0 hB47
              refine wl_storeBlk rfl rfl Try.size29 hB55 rfl rfl ⟨by first | rfl | assumption, by first | rfl | assumption, by first | rfl | assumption, by first | rfl | assumption, by first | rfl | assumption, trivial⟩ fun w68 hB69 hw70 => ?_
              have hE71 := hE63.step hw70 hG60.mem1
              have hE72 := hE64.step hw70 hG61.mem1
              have hE73 := hE65.step hw70 hG62.mem1
              have hB74 := hw70.blk hB66 hA58.nmem1
              have hB75 := hw70.blk hB67 hA59.nmem1
              refine wl_nil (nrm_then ?_)
              refine cw_seq ?_
              refine cw_seq ?_
              refine cw_region ?_
              refine wl_val rfl (ex_fieldAddr rfl Try.fld29_0) ?_
              refine wl_val rfl (ex_load1 rfl Try.agg3 (cell_nth hB75 rfl)) ?_
              refine wl_val rfl (ex_fieldAddr rfl Try.fld29_0) ?_
              refine wl_val rfl (ex_load1 rfl Try.agg3 (cell_nth hB69 rfl)) ?_
              refine wl_val rfl (ex_neq rfl rfl) ?_
              refine wl_val rfl (ex_move rfl) ?_
              refine wl_split (t := 76) rfl (fun hs76 => ?_) (fun hs76 => ?_)
              · skip
                exact absurd rfl hs76
              · skip
                refine wl_go rfl rfl rfl rfl ?_
                refine wl_val rfl (ex_fieldAddr rfl Try.fld29_1) ?_
                refine wl_go rfl rfl rfl rfl ?_
                refine wl_val rfl (ex_load1 rfl Try.agg3 (cell_nth hB75 rfl)) ?_
                refine wl_go rfl rfl rfl rfl ?_
                refine wl_val rfl (ex_fieldAddr rfl Try.fld29_1) ?_
                refine wl_go rfl rfl rfl rfl ?_
                refine wl_val rfl (ex_load1 rfl Try.agg3 (cell_nth hB69 rfl)) ?_
                refine wl_go rfl rfl rfl rfl ?_
                refine wl_val rfl (ex_neq rfl rfl) ?_
                refine wl_val rfl (ex_pick_f rfl rfl) ?_
                refine wl_val rfl (ex_move rfl) ?_
                refine wl_split (t := 83) rfl (fun hs83 => ?_) (fun hs83 => ?_)
                · skip
                  exact absurd rfl hs83
                · skip
                  refine wl_go rfl rfl rfl rfl ?_
                  refine wl_val rfl (ex_fieldAddr rfl Try.fld29_2) ?_
                  refine wl_go rfl rfl rfl rfl ?_
                  refine wl_val rfl (ex_load1 rfl Try.agg3 (cell_nth hB75 rfl)) ?_
                  refine wl_go rfl rfl rfl rfl ?_
                  refine wl_val rfl (ex_fieldAddr rfl Try.fld29_2) ?_
                  refine wl_go rfl rfl rfl rfl ?_
                  refine wl_val rfl (ex_load1 rfl Try.agg3 (cell_nth hB69 rfl)) ?_
                  refine wl_go rfl rfl rfl rfl ?_
                  refine wl_val rfl (ex_neq rfl rfl) ?_
                  refine wl_val rfl (ex_pick_f rfl rfl) ?_
                  refine wl_val rfl (ex_move rfl) ?_
                  refine wl_split (t := 90) rfl (fun hs90 => ?_) (fun hs90 => ?_)
                  · skip
                    exact absurd rfl hs90
                  · skip
                    refine wl_go rfl rfl rfl rfl ?_
                    refine wl_val rfl (ex_fieldAddr rfl Try.fld29_3) ?_
                    refine wl_go rfl rfl rfl rfl ?_
                    refine wl_val rfl (ex_load1 rfl Try.agg3 (cell_nth hB75 rfl)) ?_
                    refine wl_go rfl rfl rfl rfl ?_
                    refine wl_val rfl (ex_fieldAddr rfl Try.fld29_3) ?_
                    refine wl_go rfl rfl rfl rfl ?_
                    refine wl_val rfl (ex_load1 rfl Try.agg3 (cell_nth hB69 rfl)) ?_
                    refine wl_go rfl rfl rfl rfl ?_
                    refine wl_val rfl (ex_neq rfl rfl) ?_
                    refine wl_val rfl (ex_pick_f rfl rfl) ?_
                    refine wl_val rfl (ex_move rfl) ?_
                    refine wl_split (t := 97) rfl (fun hs97 => ?_) (fun hs97 => ?_)
                    · skip
                      exact absurd rfl hs97
                    · skip
                      refine wl_go rfl rfl rfl rfl ?_
                      refine wl_val rfl (ex_fieldAddr rfl Try.fld29_4) ?_
                      refine wl_go rfl rfl rfl rfl ?_
                      refine wl_val rfl (ex_load1 rfl Try.agg27 (cell_nth hB75 rfl)) ?_
                      refine wl_go rfl rfl rfl rfl ?_
                      refine wl_val rfl (ex_len_slice rfl Try.underlying27 rfl) ?_
                      refine wl_go rfl rfl rfl rfl ?_
                      refine wl_val rfl (ex_fieldAddr rfl Try.fld29_4) ?_
                      refine wl_go rfl rfl rfl rfl ?_
                      refine wl_val rfl (ex_load1 rfl Try.agg27 (cell_nth hB69 rfl)) ?_
                      refine wl_go rfl rfl rfl rfl ?_
                      refine wl_val rfl (ex_len_slice rfl Try.underlying27 rfl) ?_
                      refine wl_go rfl rfl rfl rfl ?_
                      refine wl_val rfl (ex_neq rfl rfl) ?_
                      refine wl_val rfl (ex_pick_f rfl rfl) ?_
                      refine wl_nil (nrm_then ?_)
                      refine cw_if rfl (fun hc105 => ?_) (fun hc105 => ?_)
                      · skip
                        refine cw_seq ?_
                        refine cw_region ?_
                        refine wl_val rfl (ex_assign rfl) ?_
                        refine wl_nil (nrm_then ?_)
                        refine cw_ret (ret_then (ret_block (ret_then (ret_then (ret_block (ret_then (body_ret1 rfl rfl ?_)))))))
                        exact absurd rfl hc105
                      · skip
                        refine cw_skip (nrm_then ?_)
                        refine cw_seq ?_
                        refine cw_region ?_
                        refine wl_val rfl (ex_fieldAddr rfl Try.fld29_4) ?_
                        refine wl_val rfl (ex_load1 rfl Try.agg27 (cell_nth hB75 rfl)) ?_
                        refine wl_val rfl (ex_len_slice rfl Try.underlying27 rfl) ?_
                        refine wl_val rfl (ex_move rfl) ?_
                        refine wl_nil (nrm_then ?_)
                        refine cw_block ?_
                        refine cw_loop (α := Nat) (0) (fun j => [(109, .int .i64 (j : Nat))]) [(3, _), (7, _), (8, _), (59, _), (60, _), (61, _), (108, _)] (fun j wr => Evo [] w68 wr ∧ (j ≤ z.rs.length)) (fun j => z.rs.length - j) ⟨rfl, trivial⟩ ⟨rfl, rfl, rfl, rfl, rfl, rfl, rfl, trivial⟩ ⟨Evo.refl _ _, Nat.zero_le _⟩ ?_
                        rintro j wr76 ⟨hV77, hj⟩
                        show CW _ _ _ _ [(109, _), (3, _), (7, _), (8, _), (59, _), (60, _), (61, _), (108, _)] _
                        have hE78 := hE71.then hV77
                        have hE79 := hE72.then hV77
                        have hE80 := hE73.then hV77
                        have hB81 := hV77.blk0 hB74
                        have hB82 := hV77.blk0 hB75
                        have hB83 := hV77.blk0 hB69
                        refine cw_seq ?_
                        refine cw_region ?_
                        refine wl_val rfl (ex_lss rfl rfl) ?_
                        refine wl_nil (nrm_then ?_)
                        refine cw_seq ?_
                        refine cw_if rfl (fun hc110 => ?_) (fun hc110 => ?_)
                        · skip
                          obtain ⟨b3, o3, x3, ha3, hb3, -, hc3, rfl⟩ := er1 j (by omega)
                          obtain ⟨b4, o4, x4, ha4, hb4, -, hc4, rfl⟩ := er2 j (by omega)
                          refine cw_skip (nrm_then ?_)
                          refine cw_seq ?_
                          refine cw_block ?_
                          refine cw_seq ?_
                          refine cw_region ?_
                          refine wl_val rfl (ex_move rfl) ?_
                          refine wl_val rfl (ex_assign rfl) ?_
                          refine wl_nil (nrm_then ?_)
                          refine cw_seq ?_
                          refine cw_quiet (by kernel_rfl) (by kernel_rfl) ?_
                          refine ql_val rfl (fun _ hq85 => ex_fieldAddr rfl Try.fld29_4) ?_
                          refine ql_val rfl (fun _ hq85 => ex_load1 rfl Try.agg27 (cell_nth (hq85.blk0 hB82) rfl)) ?_
                          refine ql_val rfl (fun _ hq85 => ex_move rfl) ?_
                          refine ql_val rfl (fun _ hq85 => ex_indexAddr (n := j) (by rw [ha3]; rfl) rfl Try.elem27 (by omega)) ?_
                          refine ql_val rfl (fun _ hq85 => ex_loadA rfl Try.agg66 Try.size66 (vs := [_, _]) rfl (hc3.evo (((hE78.then hq85)).any X) hb3)) ?_
                          refine ql_val rfl (fun _ hq85 => ex_fieldAddr rfl Try.fld29_4) ?_
                          refine ql_val rfl (fun _ hq85 => ex_load1 rfl Try.agg27 (cell_nth (hq85.blk0 hB83) rfl)) ?_
                          refine ql_val rfl (fun _ hq85 => ex_move rfl) ?_
                          refine ql_val rfl (fun _ hq85 => ex_indexAddr (n := j) (by rw [ha4]; rfl) rfl Try.elem27 (by omega)) ?_
                          refine ql_val rfl (fun _ hq85 => ex_loadA rfl Try.agg66 Try.size66 (vs := [_, _]) rfl (hc4.evo (((hE78.then hq85)).any Y) hb4)) ?_
                          refine ql_val rfl (fun _ hq85 => ex_neqA rfl rfl Try.eqg66 (Try.eq66 _ _ _ _)) ?_
                          refine ql_nil (fun wq84 hq85 => nrm_then ?_)
                          have hE86 := hE78.then hq85
                          have hE87 := hE79.then hq85
                          have hE88 := hE80.then hq85
                          have hE89 := hV77.then hq85
                          have hB90 := hq85.blk0 hB81
                          have hB91 := hq85.blk0 hB82
                          have hB92 := hq85.blk0 hB83
                          refine cw_if rfl (fun hc122 => ?_) (fun hc122 => ?_)
                          · skip
                            refine cw_seq ?_
                            refine cw_region ?_
                            refine wl_val rfl (ex_assign rfl) ?_
                            refine wl_nil (nrm_then ?_)
                            refine cw_ret (ret_block (ret_then (ret_then (ret_block (ret_block (ret_then (ret_then (ret_block (ret_then (body_ret1 rfl rfl ?_))))))))))
                            exact absurd ⟨rfl, rfl⟩ hc122
                          · skip
                            refine cw_skip (nrm_block (nrm_then ?_))
                            refine cw_region ?_
                            refine wl_val rfl (ex_add_i64 rfl rfl (by omega) (by omega)) ?_
                            refine wl_val rfl (ex_move rfl) ?_
                            refine wl_nil (nrm_then ?_)
                            refine ⟨j + 1, ?_, ⟨rfl, trivial⟩, ⟨rfl, rfl, rfl, rfl, rfl, rfl, rfl, trivial⟩, hE89, ?_⟩
                            · omega
                            · skip
                              omega
                        · skip
                          refine cw_exit (ex_then (ex_then (ex_here (nrm_block (nrm_then ?_)))))
                          refine cw_region ?_
                          refine wl_val rfl (ex_add_i64 rfl rfl (by omega) (by omega)) ?_
                          refine wl_val rfl (ex_move rfl) ?_
                          refine wl_nil (nrm_then ?_)
                          refine ⟨k + 1, ?_, ⟨rfl, trivial⟩, ⟨rfl, rfl, rfl, trivial⟩, hE80, ?_⟩
                          · omega
                          · skip
                            omega
            · skip
              refine cw_exit (ex_then (ex_then (ex_here (nrm_then ?_))))
              refine cw_seq ?_
              refine cw_region ?_
              refine wl_val rfl (ex_assign rfl) ?_
              refine wl_nil (nrm_then ?_)
              refine cw_ret (body_ret1 rfl rfl ?_)
              exact ⟨rfl, hE30⟩


theorem in2 {X : List Nat} {w w1 : World} {b : Nat} {ob ob' : Option Nat} (he : Evo X w w1) (hb : b ∈ X) (ho : ∀ y, y ∈ ob.toList → y ∈ X) (hob : ob' = ob ∨ ∃ g, ob' = some g ∧ w1.heap.size ≤ g) : ∀ y, y ∈ b :: ob'.toList → y ∈ X ∨ w.heap.size ≤ y := fun y hy => by
  rcases List.mem_cons.1 hy with rfl | hy
  · exact .inl hb
  · exact ob_in hob he ho y hy
theorem ob_ge {w1 : World} {ob ob' : Option Nat} (hob : ob' = ob ∨ ∃ g, ob' = some g ∧ w1.heap.size ≤ g) : ob' = ob ∨ Ge w1 ob' := hob.imp id fun ⟨g, h1, h2⟩ => fun g' hg' => by rw [h1] at hg'; cases hg'; exact h2
theorem ge2 {X : List Nat} {w : World} {b : Nat} {t : Option Nat} (h1 : Ge w (some b)) (h2 : Ge w t) : ∀ y, y ∈ b :: t.toList → y ∈ X ∨ w.heap.size ≤ y := fun y hy => by
  right
  rcases List.mem_cons.1 hy with rfl | hy
  · exact h1 _ rfl
  · exact h2 _ (by simpa using hy)
structure CG where
  nr : List (List Value)
  an : Option Addr
  cn : Nat
  obn : Option Nat
  bq : Nat
structure CH where
  k : Nat
  rows : List (List Value)
  ka : Option Addr
  kc : Nat
  ob : Option Nat


theorem rows_any {X Y : List Nat} {w w' : World} {rows : List (List Value)} {ds : List ByteArray} (h : RowsOk 1 RStr X w rows ds) : RowsOk 1 RStr Y w' rows ds := ⟨h.1, fun k h1 h2 => h.2 k h1 h2⟩

set_option maxHeartbeats 2000000 in
theorem copied_ok {X : List Nat} {w : World} {vs : List Value} {p : Prg} (hp : RPrg X w vs p) :
    Calls Try.prog 11 #[.agg vs.toArray] w (Ret fun v w' => ∃ a c nv rows ob, v = .agg #[.slice a p.insts.length c, iv p.start, iv p.groups, nv] ∧ OwnS w' 29 5 a p.insts.length c (List.flatten rows) ob ∧ RowsOk 5 RInst ob.toList w' rows p.insts ∧ RSl 1 RStr ob.toList w' nv p.names ∧ Ge w ob ∧ Evo [] w w') := by
  obtain ⟨hok, pi0, pn0, rfl, hiv, hnv⟩ := hp
  have hil := hok.ilen
  have hnl := hok.nlen
  have hnv0 := hnv
  obtain ⟨a3, c3, rfl, hl3, e3⟩ := hiv
  obtain ⟨a4, c4, rfl, hl4, e4⟩ := hnv
  refine calls_of_cw (N := 35) Try.func11 rfl rfl rfl ?_
  refine cw_seq ?_
  refine cw_region ?_
  refine wl_boxA rfl rfl fun bp w1 hB2 hs3 hw4 => ?_
  have hG5 := Ge.new (Evo.refl [] w) hs3
  have hE6 := (Evo.refl [] w).then hw4
  refine wl_alloc rfl Try.zero25 fun bz w7 hB8 hs9 hw10 => ?_
  have hA11 := Apart.new (Lt.blk hB2) hs9
  have hG12 := Ge.new hE6 hs9
  have hE13 := hE6.then hw10
  have hB14 := hw10.blk0 hB2
  refine wl_nil (nrm_then ?_)
  refine cw_seq ?_
  refine cw_cut (α := CG) (fun x => [(3, .pointer (some ⟨x.bq, 0, none⟩))]) [(1, _), (2, _)] (fun x wr => Evo [] w wr ∧ (wr.heap[bp]? = some (.cells #[.slice a3 p.insts.length c3, iv p.start, iv p.groups, .slice a4 p.names.length c4] 25 (0, 0)) ∧ wr.heap[bz]? = some (.cells #[.slice none 0 0, iv 0, iv 0, .slice none 0 0] 25 (0, 0)) ∧ wr.heap[x.bq]? = some (.cells #[.slice none 0 0, iv p.start, iv p.groups, .slice x.an (p.names.length) x.cn] 25 (0, 0)) ∧ OwnS wr 9 1 x.an (p.names.length) x.cn x.nr.flatten x.obn ∧ RowsOk 1 RStr [] wr x.nr p.names ∧ Apart (some bp) x.obn ∧ Apart (some bz) x.obn ∧ Apart (some bp) (some x.bq) ∧ Apart (some bz) (some x.bq) ∧ Apart (some x.bq) x.obn ∧ Ge w (some x.bq) ∧ Ge w x.obn)) ⟨rfl, rfl, trivial⟩ ?_ ?_
  · skip
    refine cw_any (fun w0 w' => Evo [] w0 w') (by kernel_rfl) (fun w15 hw16 => ?_)
    have hE17 := hE13.then hw16
    have hB18 := hw16.blk0 hB14
    have hB19 := hw16.blk0 hB8
    refine ae_take 0 rfl (by kernel_rfl) (by kernel_rfl) (by kernel_rfl) rfl (fun _ hS => ex_fieldAddr rfl Try.fld25_1) (Evo.refl [] w15) ?_
    refine ae_take 1 rfl (by kernel_rfl) (by kernel_rfl) (by kernel_rfl) rfl (fun _ hS => ex_load1 rfl Try.agg3 (cell_nth (hS.blk0 hB18) rfl)) (Evo.refl [] w15) ?_
    refine ae_take 2 rfl (by kernel_rfl) (by kernel_rfl) (by kernel_rfl) rfl (fun _ hS => ex_fieldAddr rfl Try.fld25_2) (Evo.refl [] w15) ?_
    refine ae_take 3 rfl (by kernel_rfl) (by kernel_rfl) (by kernel_rfl) rfl (fun _ hS => ex_load1 rfl Try.agg3 (cell_nth (hS.blk0 hB18) rfl)) (Evo.refl [] w15) ?_
    refine ae_take 5 rfl (by kernel_rfl) (by kernel_rfl) (by kernel_rfl) rfl (fun _ hS => ex_fieldAddr rfl Try.fld25_3) (Evo.refl [] w15) ?_
    refine ae_take 6 rfl (by kernel_rfl) (by kernel_rfl) (by kernel_rfl) rfl (fun _ hS => ex_load1 rfl Try.agg23 (cell_nth (hS.blk0 hB18) rfl)) (Evo.refl [] w15) ?_
    refine ae_loud [4, 9] (by kernel_rfl) rfl ⟨?_, ?_, trivial⟩
    · skip
      refine a_step rfl ?_
      refine wl_bslice (vs := []) rfl Try.slice23 rfl rfl rfl rfl fun b20 w21 hO22 hs23 hw24 => ?_
      have hA25 := Apart.new (Lt.blk hB18) hs23
      have hA26 := Apart.new (Lt.blk hB19) hs23
      have hG27 := Ge.new hE17 hs23
      have hG28 := Ge.new (Evo.refl [] w15) hs23
      have hE29 := hE17.then hw24
      have hE30 := (Evo.refl [] w15).then hw24
      have hB31 := hw24.blk0 hB18
      have hB32 := hw24.blk0 hB19
      refine wl_nil (ae_next (.inl hE30) ?_)
      refine ae_loud [7, 9] (by kernel_rfl) rfl ⟨?_, ?_, trivial⟩
      · skip
        refine a_step rfl ?_
        obtain ⟨nrows, hnr, hns⟩ := hnv0.rows (P := Try.prog) ((hE29).any X) RStr.one
        refine wl_append rfl rfl rfl rfl Try.app23_23 hO22 hns (by omega) fun an cn w35 obn hNa hw38 hob39 => ?_
        have hA40 := hA25.app (Lt.blk hB31) hob39
        have hA41 := hA26.app (Lt.blk hB32) hob39
        have hG42 := hG27.app hE29 hob39
        have hG43 := hG28.app hE30 hob39
        have hE44 := hE29.step hw38 hG27.mem
        have hE45 := hE30.step hw38 hG28.mem
        have hB46 := hw38.blk hB31 hA25.nmem
        have hB47 := hw38.blk hB32 hA26.nmem
        refine wl_nil (ae_next (.inl hE45) ?_)
        refine ae_take 8 rfl (by kernel_rfl) (by kernel_rfl) (by kernel_rfl) rfl (fun _ hS => ex_build (vs := [(1, _), (2, _), (3, _)]) Try.build25 rfl (cells := [_, _, _, _]) rfl) hE45 ?_
        refine ae_loud [9] (by kernel_rfl) rfl ⟨?_, trivial⟩
        refine a_step rfl ?_
        refine wl_alloc rfl Try.zero25 fun bq w48 hB49 hs50 hw51 => ?_
        have hA52 := Apart.new (Lt.blk hB46) hs50
        have hA53 := Apart.new (Lt.blk hB47) hs50
        have hA54 := Apart.new (Lt.own hNa) hs50
        have hG55 := Ge.new hE44 hs50
        have hG56 := Ge.new hE45 hs50
        have hE57 := hE44.then hw51
        have hE58 := hE45.then hw51
        have hB59 := hw51.blk0 hB46
        have hB60 := hw51.blk0 hB47
        have hO61 := hNa.evo0 hw51
        refine wl_nil (ae_next (.inl hE58) ?_)
        refine ae_loud [10] (by kernel_rfl) rfl ⟨?_, trivial⟩
        refine a_step rfl ?_
        refine wl_storeBlk rfl rfl Try.size25 hB49 rfl rfl ⟨by first | rfl | assumption, by first | rfl | assumption, by first | rfl | assumption, by first | rfl | assumption, trivial⟩ fun w62 hB63 hw64 => ?_
        have hE65 := hE57.step hw64 hG55.mem1
        have hE66 := hE58.step hw64 hG56.mem1
        have hB67 := hw64.blk hB59 hA52.nmem1
        have hB68 := hw64.blk hB60 hA53.nmem1
        have hO69 := hO61.evo hw64 hA54.own1
        try simp only [List.setIfInBounds_toArray, List.set_cons_zero, List.set_cons_succ, Nat.reduceAdd, Nat.zero_add, Nat.add_zero] at hB63
        refine wl_nil (ae_next (.inl hE66) ?_)
        refine ae_done (by kernel_rfl) (nrm_then ?_)
        refine ⟨⟨nrows, an, cn, obn, bq⟩, ⟨rfl, trivial⟩, ⟨rfl, rfl, trivial⟩, hE65, ?_⟩
        exact ⟨hB67, hB68, hB63, (by have h := hO69; rw [Nat.zero_add] at h; exact h), rows_stepG RStr.pers RStr.fresh hnr ((hE65).any X) (fun y hy => by cases hy), hA40, hA41, hA52, hA53, hA54.symm, hG55, hG42⟩
      · skip
        refine a_step rfl ?_
        refine wl_alloc rfl Try.zero25 fun bq w70 hB71 hs72 hw73 => ?_
        have hA74 := Apart.new (Lt.blk hB31) hs72
        have hA75 := Apart.new (Lt.blk hB32) hs72
        have hA76 := Apart.new (Lt.own hO22) hs72
        have hG77 := Ge.new hE29 hs72
        have hG78 := Ge.new hE30 hs72
        have hE79 := hE29.then hw73
        have hE80 := hE30.then hw73
        have hB81 := hw73.blk0 hB31
        have hB82 := hw73.blk0 hB32
        have hO83 := hO22.evo0 hw73
        refine wl_nil (ae_next (.inl hE80) ?_)
        refine ae_loud [7] (by kernel_rfl) rfl ⟨?_, trivial⟩
        refine a_step rfl ?_
        obtain ⟨nrows, hnr, hns⟩ := hnv0.rows (P := Try.prog) ((hE79).any X) RStr.one
        refine wl_append rfl rfl rfl rfl Try.app23_23 hO83 hns (by omega) fun an cn w86 obn hNa hw89 hob90 => ?_
        have hA91 := hA25.app (Lt.blk hB81) hob90
        have hA92 := hA26.app (Lt.blk hB82) hob90
        have hA93 := hA76.symm.app (Lt.blk hB71) hob90
        have hG94 := hG27.app hE79 hob90
        have hG95 := hG28.app hE80 hob90
        have hE96 := hE79.step hw89 hG27.mem
        have hE97 := hE80.step hw89 hG28.mem
        have hB98 := hw89.blk hB81 hA25.nmem
        have hB99 := hw89.blk hB82 hA26.nmem
        have hB100 := hw89.blk hB71 hA76.symm.nmem
        refine wl_nil (ae_next (.inl hE97) ?_)
        refine ae_take 8 rfl (by kernel_rfl) (by kernel_rfl) (by kernel_rfl) rfl (fun _ hS => ex_build (vs := [(1, _), (2, _), (3, _)]) Try.build25 rfl (cells := [_, _, _, _]) rfl) hE97 ?_
        refine ae_loud [10] (by kernel_rfl) rfl ⟨?_, trivial⟩
        refine a_step rfl ?_
        refine wl_storeBlk rfl rfl Try.size25 hB100 rfl rfl ⟨by first | rfl | assumption, by first | rfl | assumption, by first | rfl | assumption, by first | rfl | assumption, trivial⟩ fun w101 hB102 hw103 => ?_
        have hE104 := hE96.step hw103 hG77.mem1
        have hE105 := hE97.step hw103 hG78.mem1
        have hB106 := hw103.blk hB98 hA74.nmem1
        have hB107 := hw103.blk hB99 hA75.nmem1
        have hO108 := hNa.evo hw103 hA93.symm.own1
        try simp only [List.setIfInBounds_toArray, List.set_cons_zero, List.set_cons_succ, Nat.reduceAdd, Nat.zero_add, Nat.add_zero] at hB102
        refine wl_nil (ae_next (.inl hE105) ?_)
        refine ae_done (by kernel_rfl) (nrm_then ?_)
        refine ⟨⟨nrows, an, cn, obn, bq⟩, ⟨rfl, trivial⟩, ⟨rfl, rfl, trivial⟩, hE104, ?_⟩
        exact ⟨hB106, hB107, hB102, (by have h := hO108; rw [Nat.zero_add] at h; exact h), rows_stepG RStr.pers RStr.fresh hnr ((hE104).any X) (fun y hy => by cases hy), hA91, hA92, hA74, hA75, hA93, hG77, hG94⟩
    · skip
      refine a_step rfl ?_
      refine wl_alloc rfl Try.zero25 fun bq w109 hB110 hs111 hw112 => ?_
      have hA113 := Apart.new (Lt.blk hB18) hs111
      have hA114 := Apart.new (Lt.blk hB19) hs111
      have hG115 := Ge.new hE17 hs111
      have hG116 := Ge.new (Evo.refl [] w15) hs111
      have hE117 := hE17.then hw112
      have hE118 := (Evo.refl [] w15).then hw112
      have hB119 := hw112.blk0 hB18
      have hB120 := hw112.blk0 hB19
      refine wl_nil (ae_next (.inl hE118) ?_)
      refine ae_loud [4] (by kernel_rfl) rfl ⟨?_, trivial⟩
      refine a_step rfl ?_
      refine wl_bslice (vs := []) rfl Try.slice23 rfl rfl rfl rfl fun b121 w122 hO123 hs124 hw125 => ?_
      have hA126 := Apart.new (Lt.blk hB119) hs124
      have hA127 := Apart.new (Lt.blk hB120) hs124
      have hA128 := Apart.new (Lt.blk hB110) hs124
      have hG129 := Ge.new hE117 hs124
      have hG130 := Ge.new hE118 hs124
      have hE131 := hE117.then hw125
      have hE132 := hE118.then hw125
      have hB133 := hw125.blk0 hB119
      have hB134 := hw125.blk0 hB120
      have hB135 := hw125.blk0 hB110
      refine wl_nil (ae_next (.inl hE132) ?_)
      refine ae_loud [7] (by kernel_rfl) rfl ⟨?_, trivial⟩
      refine a_step rfl ?_
      obtain ⟨nrows, hnr, hns⟩ := hnv0.rows (P := Try.prog) ((hE131).any X) RStr.one
      refine wl_append rfl rfl rfl rfl Try.app23_23 hO123 hns (by omega) fun an cn w138 obn hNa hw141 hob142 => ?_
      have hA143 := hA126.app (Lt.blk hB133) hob142
      have hA144 := hA127.app (Lt.blk hB134) hob142
      have hA145 := hA128.app (Lt.blk hB135) hob142
      have hG146 := hG129.app hE131 hob142
      have hG147 := hG130.app hE132 hob142
      have hE148 := hE131.step hw141 hG129.mem
      have hE149 := hE132.step hw141 hG130.mem
      have hB150 := hw141.blk hB133 hA126.nmem
      have hB151 := hw141.blk hB134 hA127.nmem
      have hB152 := hw141.blk hB135 hA128.nmem
      refine wl_nil (ae_next (.inl hE149) ?_)
      refine ae_take 8 rfl (by kernel_rfl) (by kernel_rfl) (by kernel_rfl) rfl (fun _ hS => ex_build (vs := [(1, _), (2, _), (3, _)]) Try.build25 rfl (cells := [_, _, _, _]) rfl) hE149 ?_
      refine ae_loud [10] (by kernel_rfl) rfl ⟨?_, trivial⟩
      refine a_step rfl ?_
      refine wl_storeBlk rfl rfl Try.size25 hB152 rfl rfl ⟨by first | rfl | assumption, by first | rfl | assumption, by first | rfl | assumption, by first | rfl | assumption, trivial⟩ fun w153 hB154 hw155 => ?_
      have hE156 := hE148.step hw155 hG115.mem1
      have hE157 := hE149.step hw155 hG116.mem1
      have hB158 := hw155.blk hB150 hA113.nmem1
      have hB159 := hw155.blk hB151 hA114.nmem1
      have hO160 := hNa.evo hw155 hA145.symm.own1
      try simp only [List.setIfInBounds_toArray, List.set_cons_zero, List.set_cons_succ, Nat.reduceAdd, Nat.zero_add, Nat.add_zero] at hB154
      refine wl_nil (ae_next (.inl hE157) ?_)
      refine ae_done (by kernel_rfl) (nrm_then ?_)
      refine ⟨⟨nrows, an, cn, obn, bq⟩, ⟨rfl, trivial⟩, ⟨rfl, rfl, trivial⟩, hE156, ?_⟩
      exact ⟨hB158, hB159, hB154, (by have h := hO160; rw [Nat.zero_add] at h; exact h), rows_stepG RStr.pers RStr.fresh hnr ((hE156).any X) (fun y hy => by cases hy), hA143, hA144, hA113, hA114, hA145, hG115, hG146⟩
  · skip
    rintro ⟨nr, an, cn, obn, bq⟩ w161 ⟨hV162, ⟨hP, hZ, hQ, hN, hnr, hpn, hzn, hpq, hzq, hqn, hgq, hgn⟩⟩
    refine nrm_then ?_
    show CW _ _ _ _ [(3, .pointer (some ⟨bq, 0, none⟩)), (1, _), (2, _)] _
    try dsimp only at hP
    try dsimp only at hZ
    try dsimp only at hQ
    try dsimp only at hN
    try dsimp only at hnr
    try dsimp only at hpn
    try dsimp only at hzn
    try dsimp only at hpq
    try dsimp only at hzq
    try dsimp only at hqn
    try dsimp only at hgq
    try dsimp only at hgn
    refine cw_seq ?_
    refine cw_seq ?_
    have hgz : Ge w (some bz) := hG12
    refine cw_region ?_
    refine wl_val rfl (ex_fieldAddr rfl Try.fld25_0) ?_
    refine wl_val rfl (ex_load1 rfl Try.agg22 (cell_nth hP rfl)) ?_
    refine wl_val rfl (ex_len_slice rfl Try.underlying22 rfl) ?_
    refine wl_val rfl (ex_move rfl) ?_
    refine wl_nil (nrm_then ?_)
    refine cw_block ?_
    refine cw_loop (α := CH) (⟨0, [], none, 0, none⟩) (fun x => [(18, .int .i64 (x.k : Nat))]) [(2, _), (3, _), (16, _), (17, _)] (fun x wr => Evo [] w wr ∧ (x.k ≤ p.insts.length ∧ OwnS wr 29 5 x.ka x.k x.kc x.rows.flatten x.ob ∧ RowsOk 5 RInst (bq :: bz :: x.ob.toList) wr x.rows (p.insts.take x.k) ∧ wr.heap[bq]? = some (.cells #[.slice x.ka x.k x.kc, iv p.start, iv p.groups, .slice an (p.names.length) cn] 25 (0, 0)) ∧ wr.heap[bz]? = some (.cells #[.slice none 0 0, iv 0, iv 0, .slice none 0 0] 25 (0, 0)) ∧ OwnS wr 9 1 an (p.names.length) cn nr.flatten obn ∧ RowsOk 1 RStr [] wr nr p.names ∧ Apart (some bq) x.ob ∧ Apart (some bz) x.ob ∧ Apart obn x.ob ∧ Ge w x.ob)) (fun x => p.insts.length - x.k) ⟨rfl, trivial⟩ ⟨rfl, rfl, rfl, rfl, trivial⟩ ⟨hV162, ⟨Nat.zero_le _, OwnS.nil _ _ _, RowsOk.nil _ _ _ _, hQ, hZ, hN, rows_stepG RStr.pers RStr.fresh hnr (Evo.refl _ _) (fun y hy => by cases hy), Apart.nil _, Apart.nil _, Apart.nil _, Ge.nil _⟩⟩ ?_
    rintro ⟨k, rows, ka, kc, ob⟩ wr163 ⟨hV164, ⟨hk, hI, hR, hQ, hZ, hN, hnr, hqi, hzi, hni, hgi⟩⟩
    show CW _ _ _ _ [(18, .int .i64 (k : Nat)), (2, _), (3, _), (16, _), (17, _)] _
    try dsimp only at hk
    try dsimp only at hI
    try dsimp only at hR
    try dsimp only at hQ
    try dsimp only at hZ
    try dsimp only at hN
    try dsimp only at hnr
    try dsimp only at hqi
    try dsimp only at hzi
    try dsimp only at hni
    try dsimp only at hgi
    have hE165 := Evo.refl ((bq :: bz :: ob.toList)) wr163
    refine cw_seq ?_
    refine cw_region ?_
    refine wl_val rfl (ex_lss rfl rfl) ?_
    refine wl_nil (nrm_then ?_)
    refine cw_seq ?_
    refine cw_if rfl (fun hc19 => ?_) (fun hc19 => ?_)
    · skip
      have hk' : k < p.insts.length := by omega
      obtain ⟨bI, oI, vs1, ha1, hb1, -, hc1, hr1⟩ := e3 k hk'
      obtain ⟨hok', rv1, rfl, hr2⟩ := hr1
      obtain ⟨z, hz⟩ : ∃ z, z = p.insts[k] := ⟨_, rfl⟩
      rw [← hz] at hok' hr2 hc1
      have hzl := hok'.len
      have hrv := hr2.one
      refine cw_skip (nrm_then ?_)
      refine cw_seq ?_
      refine cw_block ?_
      refine cw_seq ?_
      refine cw_region ?_
      refine wl_val rfl (ex_indexAddr (n := k) (by rw [ha1]; rfl) rfl Try.elem22 hk') ?_
      refine wl_val rfl (ex_loadA rfl Try.agg29 Try.size29 (vs := [_, _, _, _, _]) rfl (hc1.evo ((hV164).any X) hb1)) ?_
      refine wl_alloc rfl Try.zero29 fun b5 w166 hB167 hs168 hw169 => ?_
      have hA170 := Apart.new (Lt.blk hZ) hs168
      have hA171 := Apart.new (Lt.blk hQ) hs168
      have hA172 := Apart.new (Lt.own hN) hs168
      have hA173 := Apart.new (Lt.own hI) hs168
      have hG174 := Ge.new hV164 hs168
      have hG175 := Ge.new hE165 hs168
      have hE176 := hV164.then hw169
      have hE177 := hE165.then hw169
      have hB178 := hw169.blk0 hZ
      have hB179 := hw169.blk0 hQ
      have hO180 := hN.evo0 hw169
      have hO181 := hI.evo0 hw169
      refine wl_storeBlk rfl rfl Try.size29 hB167 rfl rfl ⟨by first | rfl | assumption, by first | rfl | assumption, by first | rfl | assumption, by first | rfl | assumption, by first | rfl | assumption, trivial⟩ fun w182 hB183 hw184 => ?_
      have hE185 := hE176.step hw184 hG174.mem1
      have hE186 := hE177.step hw184 hG175.mem1
      have hB187 := hw184.blk hB178 hA170.nmem1
      have hB188 := hw184.blk hB179 hA171.nmem1
      have hO189 := hO180.evo hw184 hA172.own1
      have hO190 := hO181.evo hw184 hA173.own1
      try simp only [List.setIfInBounds_toArray, List.set_cons_zero, List.set_cons_succ, Nat.reduceAdd, Nat.zero_add, Nat.add_zero] at hB183
      refine wl_nil (nrm_then ?_)
      refine cw_seq ?_
      refine cw_region ?_
      refine wl_bslice (vs := []) rfl Try.slice27 rfl rfl rfl rfl fun b191 w192 hO193 hs194 hw195 => ?_
      have hA196 := Apart.new (Lt.blk hB187) hs194
      have hA197 := Apart.new (Lt.blk hB188) hs194
      have hA198 := Apart.new (Lt.own hO189) hs194
      have hA199 := Apart.new (Lt.own hO190) hs194
      have hA200 := Apart.new (Lt.blk hB183) hs194
      have hG201 := Ge.new hE185 hs194
      have hG202 := Ge.new hE186 hs194
      have hE203 := hE185.then hw195
      have hE204 := hE186.then hw195
      have hB205 := hw195.blk0 hB187
      have hB206 := hw195.blk0 hB188
      have hO207 := hO189.evo0 hw195
      have hO208 := hO190.evo0 hw195
      have hB209 := hw195.blk0 hB183
      refine wl_val rfl (ex_fieldAddr rfl Try.fld29_4) ?_
      refine wl_val rfl (ex_load1 rfl Try.agg27 (cell_nth hB209 rfl)) ?_
      obtain ⟨rr, hrr, hrs⟩ := hr2.rows (P := Try.prog) ((hE203).any X) RRange.one
      refine wl_append rfl rfl rfl rfl Try.app27_27 hO193 hrs (by omega) fun ar cr w212 obr hRa hw215 hob216 => ?_
      have hA217 := hA196.app (Lt.blk hB205) hob216
      have hA218 := hA197.app (Lt.blk hB206) hob216
      have hA219 := hA198.app (Lt.own hO207) hob216
      have hA220 := hA199.app (Lt.own hO208) hob216
      have hA221 := hA200.app (Lt.blk hB209) hob216
      have hG222 := hG201.app hE203 hob216
      have hG223 := hG202.app hE204 hob216
      have hE224 := hE203.step hw215 hG201.mem
      have hE225 := hE204.step hw215 hG202.mem
      have hB226 := hw215.blk hB205 hA196.nmem
      have hB227 := hw215.blk hB206 hA197.nmem
      have hO228 := hO207.evo hw215 hA198.own
      have hO229 := hO208.evo hw215 hA199.own
      have hB230 := hw215.blk hB209 hA200.nmem
      refine wl_val rfl (ex_fieldAddr rfl Try.fld29_4) ?_
      refine wl_store1 rfl rfl (by first | rfl | assumption) Try.size27 hB230 rfl fun w231 hB232 hw233 => ?_
      have hE234 := hE224.step hw233 hG174.mem1
      have hE235 := hE225.step hw233 hG175.mem1
      have hB236 := hw233.blk hB226 hA170.nmem1
      have hB237 := hw233.blk hB227 hA171.nmem1
      have hO238 := hO228.evo hw233 hA172.own1
      have hO239 := hO229.evo hw233 hA173.own1
      have hO240 := hRa.evo hw233 hA221.symm.own1
      try simp only [List.setIfInBounds_toArray, List.set_cons_zero, List.set_cons_succ, Nat.reduceAdd, Nat.zero_add, Nat.add_zero] at hB232
      refine wl_nil (nrm_then ?_)
      refine cw_region ?_
      refine wl_val rfl (ex_fieldAddr rfl Try.fld25_0) ?_
      refine wl_val rfl (ex_load1 rfl Try.agg22 (cell_nth hB237 rfl)) ?_
      refine wl_val rfl (ex_loadBlk rfl Try.agg29 Try.size29 hB232 rfl) ?_
      refine wl_bslice (vs := [_]) rfl Try.slice22 rfl rfl rfl rfl fun b241 w242 hO243 hs244 hw245 => ?_
      have hA246 := Apart.new (Lt.blk hB236) hs244
      have hA247 := Apart.new (Lt.blk hB237) hs244
      have hA248 := Apart.new (Lt.own hO238) hs244
      have hA249 := Apart.new (Lt.own hO239) hs244
      have hA250 := Apart.new (Lt.blk hB232) hs244
      have hA251 := Apart.new (Lt.own hO240) hs244
      have hG252 := Ge.new hE234 hs244
      have hG253 := Ge.new hE235 hs244
      have hE254 := hE234.then hw245
      have hE255 := hE235.then hw245
      have hB256 := hw245.blk0 hB236
      have hB257 := hw245.blk0 hB237
      have hO258 := hO238.evo0 hw245
      have hO259 := hO239.evo0 hw245
      have hB260 := hw245.blk0 hB232
      have hO261 := hO240.evo0 hw245
      refine wl_append rfl rfl rfl rfl Try.app22_22 hO259 (Src.ofOwn hO243 ⟨by first | rfl | assumption, by first | rfl | assumption, by first | rfl | assumption, by first | rfl | assumption, by first | rfl | assumption, trivial⟩) (by omega) fun ai ci w264 obi hIa hw267 hob268 => ?_
      have hA269 := hzi.app (Lt.blk hB256) hob268
      have hA270 := hqi.app (Lt.blk hB257) hob268
      have hA271 := hni.app (Lt.own hO258) hob268
      have hA272 := hA173.symm.app (Lt.blk hB260) hob268
      have hA273 := hA220.symm.app (Lt.own hO261) hob268
      have hA274 := hA249.symm.app (Lt.own hO243) hob268
      have hG275 := hgi.app hE254 hob268
      have hE276 := hE254.step hw267 hgi.mem
      have hE277 := hE255.step hw267 (fun y hy => .inl (List.mem_cons_of_mem _ (List.mem_cons_of_mem _ hy)))
      have hB278 := hw267.blk hB256 hzi.nmem
      have hB279 := hw267.blk hB257 hqi.nmem
      have hO280 := hO258.evo hw267 hni.own
      have hB281 := hw267.blk hB260 hA173.symm.nmem
      have hO282 := hO261.evo hw267 hA220.symm.own
      have hO283 := hO243.evo hw267 hA249.symm.own
      have hobi2 := hob268
      have hpreI := hE255
      refine wl_val rfl (ex_fieldAddr rfl Try.fld25_0) ?_
      refine wl_store1 rfl rfl (by first | rfl | assumption) Try.size22 hB279 rfl fun w284 hB285 hw286 => ?_
      have hE287 := hE276.step hw286 hgq.mem1
      have hE288 := hE277.step hw286 (fun y hy => .inl (by simp at hy; simp [hy]))
      have hB289 := hw286.blk hB278 hzq.nmem1
      have hO290 := hO280.evo hw286 hqn.symm.own1
      have hB291 := hw286.blk hB281 hA171.symm.nmem1
      have hO292 := hO282.evo hw286 hA218.symm.own1
      have hO293 := hO283.evo hw286 hA247.symm.own1
      have hO294 := hIa.evo hw286 hA270.symm.own1
      try simp only [List.setIfInBounds_toArray, List.set_cons_zero, List.set_cons_succ, Nat.reduceAdd, Nat.zero_add, Nat.add_zero] at hB285
      refine wl_nil (nrm_block (nrm_then ?_))
      refine cw_region ?_
      refine wl_val rfl (ex_add_i64 rfl rfl (by omega) (by omega)) ?_
      refine wl_val rfl (ex_move rfl) ?_
      refine wl_nil (nrm_then ?_)
      refine ⟨⟨k + 1, rows ++ [[iv z.op, iv z.out, iv z.alt, iv z.arg, .slice ar z.rs.length cr]], ai, ci, obi⟩, ?_, ⟨rfl, trivial⟩, ⟨rfl, rfl, rfl, rfl, trivial⟩, hE287, ?_⟩
      · (try dsimp only); omega
      · skip
        try dsimp only
        have hxx := in3 (bm := bq) (sb := bz) (t := ob) hpreI (by simp) (by simp) (fun y hy => List.mem_cons_of_mem _ (List.mem_cons_of_mem _ hy)) (ob_ge hobi2)
        have hR2 := rows_stepG RInst.pers RInst.fresh hR hE288 hxx
        have hrr2 := rows_stepG RRange.pers RRange.fresh hrr ((hE287).any X) (ge3 hgq hgz hG275)
        have hrs2 : RSl 2 RRange (bq :: bz :: obi.toList) w284 (.slice ar z.rs.length cr) z.rs := RSl.ofOwn (rows := rr) (by have h := hO292; rw [Nat.zero_add] at h; exact h) hrr2 rfl (nmo hA218.symm hA217.symm hA273)
        have hnr2 : RowsOk 1 RStr [] w284 nr p.names := rows_any hnr
        refine ⟨by omega, by rw [List.flatten_append]; exact hO294, ?_, hB285, hB289, hO290, hnr2, hA270, hA269, hA271, hG275⟩
        rw [List.take_succ_eq_append_getElem hk', ← hz]
        exact hR2.snoc rfl ⟨hok', _, rfl, hrs2⟩
    · skip
      refine cw_exit (ex_then (ex_then (ex_here (nrm_then ?_))))
      refine cw_seq ?_
      refine cw_region ?_
      refine wl_val rfl (ex_loadBlk rfl Try.agg25 Try.size25 hQ rfl) ?_
      refine wl_storeBlk rfl rfl Try.size25 hZ rfl rfl ⟨by first | rfl | assumption, by first | rfl | assumption, by first | rfl | assumption, by first | rfl | assumption, trivial⟩ fun w295 hB296 hw297 => ?_
      have hE298 := hV164.step hw297 hG12.mem1
      have hE299 := hE165.step hw297 (fun y hy => .inl (by simp at hy; simp [hy]))
      have hB300 := hw297.blk hQ hzq.symm.nmem1
      have hO301 := hN.evo hw297 hzn.symm.own1
      have hO302 := hI.evo hw297 hzi.symm.own1
      try simp only [List.setIfInBounds_toArray, List.set_cons_zero, List.set_cons_succ, Nat.reduceAdd, Nat.zero_add, Nat.add_zero] at hB296
      refine wl_nil (nrm_then ?_)
      refine cw_ret (body_retC1 rfl (ResOk.cellA rfl Try.agg25 Try.size25 hB296 rfl) ?_)
      have hkk : k = p.insts.length := by omega
      subst hkk
      rw [List.take_length] at hR
      exact ⟨ka, kc, _, rows, ob, rfl, hO302, rows_stepG RInst.pers RInst.fresh hR hE299 (fun y hy => .inl (List.mem_cons_of_mem _ (List.mem_cons_of_mem _ hy))), RSl.ofOwn (rows := nr) hO301 (rows_any hnr) (by omega) hni.own, hgi, hE298⟩

end Go.Proofs.Ytopjnoblhleimaa
