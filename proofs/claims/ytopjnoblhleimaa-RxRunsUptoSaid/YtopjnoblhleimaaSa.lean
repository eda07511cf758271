import Derived.Test.YtopjnoblhleimaaProg
import Derived.Test.YtopjnoblhleimaaFw2
namespace Go.Proofs.Ytopjnoblhleimaa
open Go.Proofs
open Go.W
attribute [local irreducible] Decidable.decide
set_option linter.unusedSimpArgs false
set_option linter.unusedVariables false



theorem Try.agg66 : aggB Try.prog 66 = some true := by kernel_rfl
theorem Try.agg21 : aggB Try.prog 21 = some false := by kernel_rfl
theorem Try.size66 : sizeB Try.prog 66 = some 2 := by kernel_rfl
theorem Try.elem27 : elemB Try.prog 27 = some 2 := by kernel_rfl
theorem Try.elem23 : elemB Try.prog 23 = some 1 := by kernel_rfl
theorem Try.elem22 : elemB Try.prog 22 = some 5 := by kernel_rfl
theorem Try.agg29 : aggB Try.prog 29 = some true := by kernel_rfl
theorem Try.size29 : sizeB Try.prog 29 = some 5 := by kernel_rfl
theorem Try.agg9 : aggB Try.prog 9 = some false := by kernel_rfl
theorem Try.eqg66 : Try.prog.eqGuardType Try.prog.depth 66 = false := by kernel_rfl
theorem Try.fields66 : Try.prog.underlying 66 = some (.struct (Try.prog.fieldsOf 66)) := by kernel_rfl
theorem Try.eq66 (a b c d : Int) (w : World) : (Op.equal 66 (.agg #[.int .i32 a, .int .i32 b]) (.agg #[.int .i32 c, .int .i32 d])).run Try.prog w = .ok (decide (a = c ∧ b = d)) w := by
  unfold Op.equal Op.maxDepth
  rw [run_equalIn_struct w 9999 66 _ _ Try.fields66 (by kernel_rfl)]
  by_cases h1 : a = c <;> by_cases h2 : b = d <;> simp [Op.eqFields, Program.fieldsOf, Try.underlying66, run_part1 w Try.agg21, run_equalIn_int w _ 21 _ _ _ _ Try.underlying21, h1, h2]

/-- A range of runes. -/
def RRange : Rel (Int × Int) := fun _ _ vs d => vs = [.int .i32 d.1, .int .i32 d.2]
theorem RRange.pers : RRange.Pers := fun _ _ _ _ _ _ h => h
theorem RRange.fresh : RRange.Fresh := fun _ _ _ _ _ _ h => h
theorem RRange.one : ∀ X w vs d, RRange X w vs d → ∀ u, u ∈ vs → u.oneCell' = true := fun _ _ _ _ h u hu => by
  cases h; simp at hu; rcases hu with rfl | rfl <;> rfl

/-- An instruction. -/
structure Inst where
  op : Int
  out : Int
  alt : Int
  arg : Int
  rs : List (Int × Int)
structure Inst.Ok (c : Inst) : Prop where
  op : -9223372036854775808 ≤ c.op ∧ c.op ≤ 9223372036854775807
  out : -9223372036854775808 ≤ c.out ∧ c.out ≤ 9223372036854775807
  alt : -9223372036854775808 ≤ c.alt ∧ c.alt ≤ 9223372036854775807
  arg : -9223372036854775808 ≤ c.arg ∧ c.arg ≤ 9223372036854775807
  len : c.rs.length * 8 ≤ 140737488355328
def RInst : Rel Inst := fun X w vs d => d.Ok ∧ ∃ rv, vs = [.int .i64 d.op, .int .i64 d.out, .int .i64 d.alt, .int .i64 d.arg, rv] ∧ RSl 2 RRange X w rv d.rs
theorem RInst.fresh : RInst.Fresh := fun _ _ _ _ _ hy ⟨h0, rv, hv, h⟩ => ⟨h0, rv, hv, h.fresh (by decide) RRange.fresh hy⟩
theorem RInst.one : ∀ X w vs d, RInst X w vs d → ∀ u, u ∈ vs → u.oneCell' = true := fun _ _ _ _ h u hu => by
  obtain ⟨_, rv, rfl, h⟩ := h
  simp at hu
  rcases hu with rfl | rfl | rfl | rfl | rfl
  · rfl
  · rfl
  · rfl
  · rfl
  · exact h.one
theorem RInst.pers : RInst.Pers := fun _ _ _ _ _ he ⟨h0, rv, hv, h⟩ => ⟨h0, rv, hv, h.evo RRange.pers he⟩

theorem sameRanges_ok {X : List Nat} {w : World} {v1 v2 : Value} {d1 d2 : List (Int × Int)} (h1 : RSl 2 RRange X w v1 d1) (h2 : RSl 2 RRange X w v2 d2) (hl : d1.length ≤ 140737488355328) :
    Calls Try.prog 27 #[v1, v2] w (Ret fun v w' => v = .bool (decide (d1 = d2)) ∧ Evo [] w w') := by
  obtain ⟨a1, c1, rfl, hlc1, e1⟩ := h1
  obtain ⟨a2, c2, rfl, hlc2, e2⟩ := h2
  refine calls_of_cw (N := 26) Try.func27 rfl rfl rfl ?_
  refine cw_seq ?_
  refine cw_region ?_
  refine wl_val rfl (ex_assign rfl) ?_
  refine wl_nil (nrm_then ?_)
  refine cw_seq ?_
  refine cw_seq ?_
  refine cw_region ?_
  refine wl_val rfl (ex_move rfl) ?_
  refine wl_val rfl (ex_len_slice rfl Try.underlying27 rfl) ?_
  refine wl_val rfl (ex_move rfl) ?_
  refine wl_val rfl (ex_len_slice rfl Try.underlying27 rfl) ?_
  refine wl_val rfl (ex_neq rfl rfl) ?_
  refine wl_nil (nrm_then ?_)
  refine cw_if rfl (fun hc10 => ?_) (fun hc10 => ?_)
  · skip
    refine cw_seq ?_
    refine cw_region ?_
    refine wl_val rfl (ex_assign rfl) ?_
    refine wl_nil (nrm_then ?_)
    refine cw_ret (ret_then (body_ret1 rfl rfl ?_))
    exact ⟨congrArg Value.bool (decide_eq_false (fun h => hc10 (by rw [h]))).symm, (Evo.refl [] w)⟩
  · skip
    refine cw_skip (nrm_then ?_)
    refine cw_seq ?_
    refine cw_seq ?_
    refine cw_region ?_
    refine wl_val rfl (ex_assign rfl) ?_
    refine wl_nil (nrm_then ?_)
    refine cw_block ?_
    refine cw_loop (α := Nat) (0) (fun k => [(5, .int .i64 (k : Nat))]) [(0, _), (1, _)] (fun k wr => Evo [] w wr ∧ (k ≤ d1.length ∧ d1.take k = d2.take k)) (fun k => d1.length - k) ⟨rfl, trivial⟩ ⟨rfl, rfl, trivial⟩ ⟨Evo.refl _ _, ⟨Nat.zero_le _, rfl⟩⟩ ?_
    rintro k wr1 ⟨hV2, ⟨hk, hpre⟩⟩
    show CW _ _ _ _ [(5, _), (0, _), (1, _)] _
    have hE3 := (Evo.refl [] w).then hV2
    refine cw_seq ?_
    refine cw_seq ?_
    refine cw_region ?_
    refine wl_val rfl (ex_move rfl) ?_
    refine wl_val rfl (ex_move rfl) ?_
    refine wl_val rfl (ex_len_slice rfl Try.underlying27 rfl) ?_
    refine wl_val rfl (ex_lss rfl rfl) ?_
    refine wl_nil (nrm_then ?_)
    refine cw_if rfl (fun hc14 => ?_) (fun hc14 => ?_)
    · skip
      refine cw_skip (nrm_then ?_)
      refine cw_seq ?_
      refine cw_block ?_
      refine cw_seq ?_
      refine cw_quiet (by kernel_rfl) (by kernel_rfl) ?_
      obtain ⟨b1, o1, vs1, ha1, -, -, hc1, rfl⟩ := e1 k (by omega)
      obtain ⟨b2, o2, vs2, ha2, -, -, hc2, rfl⟩ := e2 k (by omega)
      refine ql_val rfl (fun _ hq5 => ex_move rfl) ?_
      refine ql_val rfl (fun _ hq5 => ex_move rfl) ?_
      refine ql_val rfl (fun _ hq5 => ex_indexAddr (n := k) (by rw [ha1]; rfl) rfl Try.elem27 (by omega)) ?_
      refine ql_val rfl (fun _ hq5 => ex_loadA rfl Try.agg66 Try.size66 (vs := [_, _]) rfl (hc1.evo (hE3.then hq5) (by simp))) ?_
      refine ql_val rfl (fun _ hq5 => ex_move rfl) ?_
      refine ql_val rfl (fun _ hq5 => ex_move rfl) ?_
      refine ql_val rfl (fun _ hq5 => ex_indexAddr (n := k) (by rw [ha2]; rfl) rfl Try.elem27 (by omega)) ?_
      refine ql_val rfl (fun _ hq5 => ex_loadA rfl Try.agg66 Try.size66 (vs := [_, _]) rfl (hc2.evo (hE3.then hq5) (by simp))) ?_
      refine ql_val rfl (fun _ hq5 => ex_neqA rfl rfl Try.eqg66 (Try.eq66 _ _ _ _)) ?_
      refine ql_nil (fun wq4 hq5 => nrm_then ?_)
      have hE6 := hE3.then hq5
      have hE7 := hV2.then hq5
      refine cw_if rfl (fun hc25 => ?_) (fun hc25 => ?_)
      · skip
        refine cw_seq ?_
        refine cw_region ?_
        refine wl_val rfl (ex_assign rfl) ?_
        refine wl_nil (nrm_then ?_)
        refine cw_ret (ret_block (ret_then (ret_then (ret_block (ret_then (body_ret1 rfl rfl ?_))))))
        exact ⟨congrArg Value.bool (decide_eq_false (fun h => hc25 (by subst h; exact ⟨rfl, rfl⟩))).symm, hE6⟩
      · skip
        refine cw_skip (nrm_block (nrm_then ?_))
        refine cw_region ?_
        refine wl_val rfl (ex_move rfl) ?_
        refine wl_val rfl (ex_add_i64 rfl rfl (by omega) (by omega)) ?_
        refine wl_val rfl (ex_assign rfl) ?_
        refine wl_nil (nrm_then ?_)
        refine ⟨k + 1, ?_, ⟨rfl, trivial⟩, ⟨rfl, rfl, trivial⟩, hE7, ?_⟩
        · omega
        · skip
          have h3 : d1[k] = d2[k] := by simp at hc25; exact Prod.ext hc25.1 hc25.2
          exact ⟨by omega, by rw [List.take_succ_eq_append_getElem (by omega), List.take_succ_eq_append_getElem (by omega), hpre, h3]⟩
    · skip
      refine cw_exit (ex_then (ex_then (ex_here (nrm_then ?_))))
      refine cw_seq ?_
      refine cw_region ?_
      refine wl_val rfl (ex_assign rfl) ?_
      refine wl_nil (nrm_then ?_)
      refine cw_ret (body_ret1 rfl rfl ?_)
      exact ⟨congrArg Value.bool (decide_eq_true (by rw [List.take_of_length_le (by omega), List.take_of_length_le (by omega)] at hpre; exact hpre)).symm, hE3⟩

theorem sameTexts_ok {X : List Nat} {w : World} {v1 v2 : Value} {d1 d2 : List ByteArray} (h1 : RSl 1 RStr X w v1 d1) (h2 : RSl 1 RStr X w v2 d2) (hl : d1.length ≤ 140737488355328) :
    Calls Try.prog 26 #[v1, v2] w (Ret fun v w' => v = .bool (decide (d1 = d2)) ∧ Evo [] w w') := by
  obtain ⟨a1, c1, rfl, hlc1, e1⟩ := h1
  obtain ⟨a2, c2, rfl, hlc2, e2⟩ := h2
  refine calls_of_cw (N := 26) Try.func26 rfl rfl rfl ?_
  refine cw_seq ?_
  refine cw_region ?_
  refine wl_val rfl (ex_assign rfl) ?_
  refine wl_nil (nrm_then ?_)
  refine cw_seq ?_
  refine cw_seq ?_
  refine cw_region ?_
  refine wl_val rfl (ex_move rfl) ?_
  refine wl_val rfl (ex_len_slice rfl Try.underlying23 rfl) ?_
  refine wl_val rfl (ex_move rfl) ?_
  refine wl_val rfl (ex_len_slice rfl Try.underlying23 rfl) ?_
  refine wl_val rfl (ex_neq rfl rfl) ?_
  refine wl_nil (nrm_then ?_)
  refine cw_if rfl (fun hc10 => ?_) (fun hc10 => ?_)
  · skip
    refine cw_seq ?_
    refine cw_region ?_
    refine wl_val rfl (ex_assign rfl) ?_
    refine wl_nil (nrm_then ?_)
    refine cw_ret (ret_then (body_ret1 rfl rfl ?_))
    exact ⟨congrArg Value.bool (decide_eq_false (fun h => hc10 (by rw [h]))).symm, (Evo.refl [] w)⟩
  · skip
    refine cw_skip (nrm_then ?_)
    refine cw_seq ?_
    refine cw_seq ?_
    refine cw_region ?_
    refine wl_val rfl (ex_assign rfl) ?_
    refine wl_nil (nrm_then ?_)
    refine cw_block ?_
    refine cw_loop (α := Nat) (0) (fun k => [(5, .int .i64 (k : Nat))]) [(0, _), (1, _)] (fun k wr => Evo [] w wr ∧ (k ≤ d1.length ∧ d1.take k = d2.take k)) (fun k => d1.length - k) ⟨rfl, trivial⟩ ⟨rfl, rfl, trivial⟩ ⟨Evo.refl _ _, ⟨Nat.zero_le _, rfl⟩⟩ ?_
    rintro k wr1 ⟨hV2, ⟨hk, hpre⟩⟩
    show CW _ _ _ _ [(5, _), (0, _), (1, _)] _
    have hE3 := (Evo.refl [] w).then hV2
    refine cw_seq ?_
    refine cw_seq ?_
    refine cw_region ?_
    refine wl_val rfl (ex_move rfl) ?_
    refine wl_val rfl (ex_move rfl) ?_
    refine wl_val rfl (ex_len_slice rfl Try.underlying23 rfl) ?_
    refine wl_val rfl (ex_lss rfl rfl) ?_
    refine wl_nil (nrm_then ?_)
    refine cw_if rfl (fun hc14 => ?_) (fun hc14 => ?_)
    · skip
      refine cw_skip (nrm_then ?_)
      refine cw_seq ?_
      refine cw_block ?_
      refine cw_seq ?_
      refine cw_quiet (by kernel_rfl) (by kernel_rfl) ?_
      obtain ⟨b1, o1, vs1, ha1, -, -, hc1, rfl⟩ := e1 k (by omega)
      obtain ⟨b2, o2, vs2, ha2, -, -, hc2, rfl⟩ := e2 k (by omega)
      refine ql_val rfl (fun _ hq5 => ex_move rfl) ?_
      refine ql_val rfl (fun _ hq5 => ex_move rfl) ?_
      refine ql_val rfl (fun _ hq5 => ex_indexAddr (n := k) (by rw [ha1]; rfl) rfl Try.elem23 (by omega)) ?_
      refine ql_val rfl (fun _ hq5 => ex_load1 rfl Try.agg9 ((hc1.evo (hE3.then hq5) (by simp)) 0 _ rfl)) ?_
      refine ql_val rfl (fun _ hq5 => ex_move rfl) ?_
      refine ql_val rfl (fun _ hq5 => ex_move rfl) ?_
      refine ql_val rfl (fun _ hq5 => ex_indexAddr (n := k) (by rw [ha2]; rfl) rfl Try.elem23 (by omega)) ?_
      refine ql_val rfl (fun _ hq5 => ex_load1 rfl Try.agg9 ((hc2.evo (hE3.then hq5) (by simp)) 0 _ rfl)) ?_
      refine ql_val rfl (fun _ hq5 => ex_neqs rfl rfl) ?_
      refine ql_nil (fun wq4 hq5 => nrm_then ?_)
      have hE6 := hE3.then hq5
      have hE7 := hV2.then hq5
      refine cw_if rfl (fun hc25 => ?_) (fun hc25 => ?_)
      · skip
        refine cw_seq ?_
        refine cw_region ?_
        refine wl_val rfl (ex_assign rfl) ?_
        refine wl_nil (nrm_then ?_)
        refine cw_ret (ret_block (ret_then (ret_then (ret_block (ret_then (body_ret1 rfl rfl ?_))))))
        exact ⟨congrArg Value.bool (decide_eq_false (fun h => hc25 (by subst h; rfl))).symm, hE6⟩
      · skip
        refine cw_skip (nrm_block (nrm_then ?_))
        refine cw_region ?_
        refine wl_val rfl (ex_move rfl) ?_
        refine wl_val rfl (ex_add_i64 rfl rfl (by omega) (by omega)) ?_
        refine wl_val rfl (ex_assign rfl) ?_
        refine wl_nil (nrm_then ?_)
        refine ⟨k + 1, ?_, ⟨rfl, trivial⟩, ⟨rfl, rfl, trivial⟩, hE7, ?_⟩
        · omega
        · skip
          have h3 : d1[k] = d2[k] := by simpa using hc25
          exact ⟨by omega, by rw [List.take_succ_eq_append_getElem (by omega), List.take_succ_eq_append_getElem (by omega), hpre, h3]⟩
    · skip
      refine cw_exit (ex_then (ex_then (ex_here (nrm_then ?_))))
      refine cw_seq ?_
      refine cw_region ?_
      refine wl_val rfl (ex_assign rfl) ?_
      refine wl_nil (nrm_then ?_)
      refine cw_ret (body_ret1 rfl rfl ?_)
      exact ⟨congrArg Value.bool (decide_eq_true (by rw [List.take_of_length_le (by omega), List.take_of_length_le (by omega)] at hpre; exact hpre)).symm, hE3⟩

end Go.Proofs.Ytopjnoblhleimaa
