import Derived.Test.YtopjnoblhleimaaSa
namespace Go.Proofs.Ytopjnoblhleimaa
open Go.Proofs
open Go.W
attribute [local irreducible] Decidable.decide
set_option linter.unusedSimpArgs false
set_option linter.unusedVariables false
theorem Try.agg27 : aggB Try.prog 27 = some false := by kernel_rfl
theorem Try.agg3 : aggB Try.prog 3 = some false := by kernel_rfl
theorem Try.fld29_0 : fieldB Try.prog 29 0 = some 0 := by kernel_rfl
theorem Try.fld29_1 : fieldB Try.prog 29 1 = some 1 := by kernel_rfl
theorem Try.fld29_2 : fieldB Try.prog 29 2 = some 2 := by kernel_rfl
theorem Try.fld29_3 : fieldB Try.prog 29 3 = some 3 := by kernel_rfl
theorem Try.fld29_4 : fieldB Try.prog 29 4 = some 4 := by kernel_rfl
theorem Try.fld66_0 : fieldB Try.prog 66 0 = some 0 := by kernel_rfl
theorem Try.fld66_1 : fieldB Try.prog 66 1 = some 1 := by kernel_rfl
theorem Try.zero66 : zeroB Try.prog 66 = some #[.int .i32 0, .int .i32 0] := by kernel_rfl


/-- What an instruction's numbers have to be. -/
def NumOk (c : Inst) (n g : Int) : Prop := 1 ≤ c.op ∧ c.op ≤ 11 ∧ ((c.op = 1 ∨ c.op = 11) → c.out = 0) ∧ (¬ (c.op = 1 ∨ c.op = 11) → 0 ≤ c.out ∧ c.out < n) ∧ (c.op = 3 → 0 ≤ c.alt ∧ c.alt < n) ∧ (c.op ≠ 3 → c.alt = 0) ∧
  (c.op = 4 → 2 ≤ c.arg ∧ c.arg ≤ 2 * g + 1) ∧ (c.op = 9 → c.arg = 0 ∨ c.arg = 1) ∧ (c.op ≠ 4 ∧ c.op ≠ 9 → c.arg = 0) ∧ (c.op = 2 ↔ 0 < (c.rs.length : Int))
/-- Ranges that rise, up to the k-th. -/
def RsUp (rs : List (Int × Int)) (k : Nat) : Prop := ∀ i (h : i < rs.length), i < k → 0 ≤ rs[i].1 ∧ rs[i].1 ≤ rs[i].2 ∧ rs[i].2 ≤ 1114111 ∧ ∀ _h0 : 0 < i, rs[i - 1].2 < rs[i].1
def SoundI (c : Inst) (n g : Int) : Prop := NumOk c n g ∧ RsUp c.rs c.rs.length
theorem RsUp.succ {rs : List (Int × Int)} {k : Nat} (hk : k < rs.length) (h : RsUp rs k) (h1 : 0 ≤ rs[k].1) (h2 : rs[k].1 ≤ rs[k].2) (h3 : rs[k].2 ≤ 1114111) (h4 : ∀ _h0 : 0 < k, rs[k - 1].2 < rs[k].1) : RsUp rs (k + 1) := fun i hi hik => by
  by_cases e : i < k
  · exact h i hi e
  · obtain rfl : i = k := by omega
    exact ⟨h1, h2, h3, h4⟩
theorem not_num {c : Inst} {n g : Int} (h : ¬ NumOk c n g) : (false = true ↔ SoundI c n g) := ⟨fun h => (by cases h), fun h2 => absurd h2.1 h⟩
theorem not_rs {c : Inst} {n g : Int} (k : Nat) (hk : k < c.rs.length) (h : ¬ (0 ≤ c.rs[k].1 ∧ c.rs[k].1 ≤ c.rs[k].2 ∧ c.rs[k].2 ≤ 1114111 ∧ ∀ _h0 : 0 < k, c.rs[k - 1].2 < c.rs[k].1)) : (false = true ↔ SoundI c n g) :=
  ⟨fun h => (by cases h), fun h2 => absurd (h2.2 k hk hk) h⟩
/-- The arms of the switch: how far Out and Alt may go, whether Arg is as it should be. -/
def Arms (c : Inst) (n g : Int) (x : Int × Int × Bool) : Prop := ((c.op = 1 ∨ c.op = 11) → x.1 = 1) ∧ (¬ (c.op = 1 ∨ c.op = 11) → x.1 = n) ∧ (c.op = 3 → x.2.1 = n) ∧ (c.op ≠ 3 → x.2.1 = 1) ∧
  (x.2.2 = true ↔ (c.op = 4 → 2 ≤ c.arg ∧ c.arg ≤ 2 * g + 1) ∧ (c.op = 9 → c.arg = 0 ∨ c.arg = 1) ∧ (c.op ≠ 4 ∧ c.op ≠ 9 → c.arg = 0))

theorem sound_ok {X : List Nat} {w : World} {vs : List Value} {c : Inst} {n g : Int} (hc : RInst X w vs c) (_hn : 0 ≤ n ∧ n ≤ 10000) (hg : 0 ≤ g ∧ g ≤ 100) :
    Calls Try.prog 24 #[.agg vs.toArray, .int .i64 n, .int .i64 g] w (Ret fun v w' => ∃ b, v = .bool b ∧ (b = true ↔ SoundI c n g) ∧ Evo [] w w') := by
  obtain ⟨hok, rv, rfl, hrv⟩ := hc
  have hop := hok.op
  have hout := hok.out
  have halt := hok.alt
  have harg := hok.arg
  have hln := hok.len
  obtain ⟨a3, c3, rfl, hl3, e3⟩ := hrv
  refine calls_of_cw (N := 130) Try.func24 rfl rfl rfl ?_
  refine cw_seq ?_
  refine cw_region ?_
  refine wl_boxA rfl rfl fun b1 w2 hB3 hs4 hw5 => ?_
  have hG6 := Ge.new (Evo.refl [] w) hs4
  have hE7 := (Evo.refl [] w).then hw5
  refine wl_val rfl (ex_assign rfl) ?_
  refine wl_nil (nrm_then ?_)
  refine cw_seq ?_
  refine cw_seq ?_
  refine cw_region ?_
  refine wl_val rfl (ex_fieldAddr rfl Try.fld29_0) ?_
  refine wl_val rfl (ex_load1 rfl Try.agg3 (cell_nth hB3 rfl)) ?_
  refine wl_val rfl (ex_lss rfl rfl) ?_
  refine wl_val rfl (ex_move rfl) ?_
  refine wl_split (t := 15) rfl (fun hs15 => ?_) (fun hs15 => ?_)
  · skip
    refine wl_no rfl rfl rfl rfl rfl rfl ?_
    refine wl_no rfl rfl rfl rfl rfl rfl ?_
    refine wl_no rfl rfl rfl rfl rfl rfl ?_
    refine wl_val rfl (ex_pick_t rfl rfl) ?_
    refine wl_nil (nrm_then ?_)
    refine cw_true rfl ?_
    refine cw_seq ?_
    refine cw_region ?_
    refine wl_val rfl (ex_assign rfl) ?_
    refine wl_nil (nrm_then ?_)
    refine cw_ret (ret_then (body_ret1 rfl rfl ?_))
    exact ⟨_, rfl, not_num (by simp only [NumOk, Arms] at *; grind), hE7⟩
  · skip
    refine wl_go rfl rfl rfl rfl ?_
    refine wl_val rfl (ex_fieldAddr rfl Try.fld29_0) ?_
    refine wl_go rfl rfl rfl rfl ?_
    refine wl_val rfl (ex_load1 rfl Try.agg3 (cell_nth hB3 rfl)) ?_
    refine wl_go rfl rfl rfl rfl ?_
    refine wl_val rfl (ex_gtr rfl rfl) ?_
    refine wl_val rfl (ex_pick_f rfl rfl) ?_
    refine wl_nil (nrm_then ?_)
    refine cw_if rfl (fun hc19 => ?_) (fun hc19 => ?_)
    · skip
      refine cw_seq ?_
      refine cw_region ?_
      refine wl_val rfl (ex_assign rfl) ?_
      refine wl_nil (nrm_then ?_)
      refine cw_ret (ret_then (body_ret1 rfl rfl ?_))
      exact ⟨_, rfl, not_num (by simp only [NumOk]; omega), hE7⟩
    · skip
      refine cw_skip (nrm_then ?_)
      refine cw_seq ?_
      refine cw_quiet (by kernel_rfl) (by kernel_rfl) ?_
      refine ql_val rfl (fun _ hq9 => ex_move rfl) ?_
      refine ql_val rfl (fun _ hq9 => ex_fieldAddr rfl Try.fld29_3) ?_
      refine ql_val rfl (fun _ hq9 => ex_load1 rfl Try.agg3 (cell_nth (hq9.blk0 hB3) rfl)) ?_
      refine ql_val rfl (fun _ hq9 => ex_eql rfl rfl) ?_
      refine ql_val rfl (fun _ hq9 => ex_assign rfl) ?_
      refine ql_val rfl (fun _ hq9 => ex_assign rfl) ?_
      refine ql_val rfl (fun _ hq9 => ex_assign rfl) ?_
      refine ql_nil (fun wq8 hq9 => nrm_then ?_)
      have hE10 := hE7.then hq9
      have hB11 := hq9.blk0 hB3
      refine cw_seq ?_
      refine cw_cut (α := Int × Int × Bool) (fun x => [(7, .int .i64 x.1), (8, .int .i64 x.2.1), (9, .bool x.2.2)]) [(3, _), (6, _)] (fun x wr => Evo [] wq8 wr ∧ (Arms c n g x)) ⟨rfl, rfl, trivial⟩ ?_ ?_
      · skip
        refine cw_seq ?_
        refine cw_region ?_
        refine wl_val rfl (ex_fieldAddr rfl Try.fld29_0) ?_
        refine wl_val rfl (ex_load1 rfl Try.agg3 (cell_nth hB11 rfl)) ?_
        refine wl_nil (nrm_then ?_)
        refine cw_block ?_
        refine cw_seq ?_
        refine cw_seq ?_
        refine cw_region ?_
        refine wl_val rfl (ex_eql rfl rfl) ?_
        refine wl_val rfl (ex_assign rfl) ?_
        refine wl_nil (nrm_then ?_)
        refine cw_if rfl (fun hc26 => ?_) (fun hc26 => ?_)
        · skip
          refine cw_skip (nrm_then ?_)
          refine cw_if rfl (fun hc26 => ?_) (fun hc26 => ?_)
          · skip
            refine cw_region ?_
            refine wl_val rfl (ex_assign rfl) ?_
            refine wl_nil (nrm_block (nrm_then ?_))
            refine ⟨(_, _, _), ⟨rfl, rfl, rfl, trivial⟩, ⟨rfl, rfl, trivial⟩, (Evo.refl [] wq8), ?_⟩
            (try simp only [Arms, decide_eq_true_eq])
            grind [Arms]
          · skip
            refine cw_seq ?_
            refine cw_region ?_
            refine wl_val rfl (ex_eql rfl rfl) ?_
            refine wl_val rfl (ex_assign rfl) ?_
            refine wl_nil (nrm_then ?_)
            refine cw_if rfl (fun hc29 => ?_) (fun hc29 => ?_)
            · skip
              refine cw_region ?_
              refine wl_val rfl (ex_move rfl) ?_
              refine wl_val rfl (ex_assign rfl) ?_
              refine wl_nil (nrm_block (nrm_then ?_))
              refine ⟨(_, _, _), ⟨rfl, rfl, rfl, trivial⟩, ⟨rfl, rfl, trivial⟩, (Evo.refl [] wq8), ?_⟩
              (try simp only [Arms, decide_eq_true_eq])
              grind [Arms]
            · skip
              refine cw_seq ?_
              refine cw_region ?_
              refine wl_val rfl (ex_eql rfl rfl) ?_
              refine wl_val rfl (ex_assign rfl) ?_
              refine wl_nil (nrm_then ?_)
              refine cw_if rfl (fun hc32 => ?_) (fun hc32 => ?_)
              · skip
                refine cw_region ?_
                refine wl_val rfl (ex_fieldAddr rfl Try.fld29_3) ?_
                refine wl_val rfl (ex_load1 rfl Try.agg3 (cell_nth hB11 rfl)) ?_
                refine wl_val rfl (ex_leq rfl rfl) ?_
                refine wl_val rfl (ex_move rfl) ?_
                refine wl_split (t := 37) rfl (fun hs37 => ?_) (fun hs37 => ?_)
                · skip
                  refine wl_go rfl rfl rfl rfl ?_
                  refine wl_val rfl (ex_fieldAddr rfl Try.fld29_3) ?_
                  refine wl_go rfl rfl rfl rfl ?_
                  refine wl_val rfl (ex_load1 rfl Try.agg3 (cell_nth hB11 rfl)) ?_
                  refine wl_go rfl rfl rfl rfl ?_
                  refine wl_val rfl (ex_move rfl) ?_
                  refine wl_go rfl rfl rfl rfl ?_
                  refine wl_val rfl (ex_mul_i64 rfl rfl (by omega) (by omega)) ?_
                  refine wl_go rfl rfl rfl rfl ?_
                  refine wl_val rfl (ex_add_i64 rfl rfl (by omega) (by omega)) ?_
                  refine wl_go rfl rfl rfl rfl ?_
                  refine wl_val rfl (ex_leq rfl rfl) ?_
                  refine wl_val rfl (ex_pick_t rfl rfl) ?_
                  refine wl_val rfl (ex_assign rfl) ?_
                  refine wl_nil (nrm_block (nrm_then ?_))
                  refine ⟨(_, _, _), ⟨rfl, rfl, rfl, trivial⟩, ⟨rfl, rfl, trivial⟩, (Evo.refl [] wq8), ?_⟩
                  (try simp only [Arms, decide_eq_true_eq])
                  grind [Arms]
                · skip
                  refine wl_no rfl rfl rfl rfl rfl rfl ?_
                  refine wl_no rfl rfl rfl rfl rfl rfl ?_
                  refine wl_no rfl rfl rfl rfl rfl rfl ?_
                  refine wl_no rfl rfl rfl rfl rfl rfl ?_
                  refine wl_no rfl rfl rfl rfl rfl rfl ?_
                  refine wl_no rfl rfl rfl rfl rfl rfl ?_
                  refine wl_val rfl (ex_pick_f rfl rfl) ?_
                  refine wl_val rfl (ex_assign rfl) ?_
                  refine wl_nil (nrm_block (nrm_then ?_))
                  refine ⟨(_, _, _), ⟨rfl, rfl, rfl, trivial⟩, ⟨rfl, rfl, trivial⟩, (Evo.refl [] wq8), ?_⟩
                  (try simp only [Arms, decide_eq_true_eq])
                  grind [Arms]
              · skip
                refine cw_seq ?_
                refine cw_region ?_
                refine wl_val rfl (ex_eql rfl rfl) ?_
                refine wl_val rfl (ex_assign rfl) ?_
                refine wl_nil (nrm_then ?_)
                refine cw_if rfl (fun hc45 => ?_) (fun hc45 => ?_)
                · skip
                  refine cw_region ?_
                  refine wl_val rfl (ex_fieldAddr rfl Try.fld29_3) ?_
                  refine wl_val rfl (ex_load1 rfl Try.agg3 (cell_nth hB11 rfl)) ?_
                  refine wl_val rfl (ex_eql rfl rfl) ?_
                  refine wl_val rfl (ex_move rfl) ?_
                  refine wl_split (t := 50) rfl (fun hs50 => ?_) (fun hs50 => ?_)
                  · skip
                    refine wl_no rfl rfl rfl rfl rfl rfl ?_
                    refine wl_no rfl rfl rfl rfl rfl rfl ?_
                    refine wl_no rfl rfl rfl rfl rfl rfl ?_
                    refine wl_val rfl (ex_pick_t rfl rfl) ?_
                    refine wl_val rfl (ex_assign rfl) ?_
                    refine wl_nil (nrm_block (nrm_then ?_))
                    refine ⟨(_, _, _), ⟨rfl, rfl, rfl, trivial⟩, ⟨rfl, rfl, trivial⟩, (Evo.refl [] wq8), ?_⟩
                    (try simp only [Arms, decide_eq_true_eq])
                    grind [Arms]
                  · skip
                    refine wl_go rfl rfl rfl rfl ?_
                    refine wl_val rfl (ex_fieldAddr rfl Try.fld29_3) ?_
                    refine wl_go rfl rfl rfl rfl ?_
                    refine wl_val rfl (ex_load1 rfl Try.agg3 (cell_nth hB11 rfl)) ?_
                    refine wl_go rfl rfl rfl rfl ?_
                    refine wl_val rfl (ex_eql rfl rfl) ?_
                    refine wl_val rfl (ex_pick_f rfl rfl) ?_
                    refine wl_val rfl (ex_assign rfl) ?_
                    refine wl_nil (nrm_block (nrm_then ?_))
                    refine ⟨(_, _, _), ⟨rfl, rfl, rfl, trivial⟩, ⟨rfl, rfl, trivial⟩, (Evo.refl [] wq8), ?_⟩
                    (try simp only [Arms, decide_eq_true_eq])
                    grind [Arms]
                · skip
                  refine cw_skip (nrm_block (nrm_then ?_))
                  refine ⟨(_, _, _), ⟨rfl, rfl, rfl, trivial⟩, ⟨rfl, rfl, trivial⟩, (Evo.refl [] wq8), ?_⟩
                  (try simp only [Arms, decide_eq_true_eq])
                  grind [Arms]
        · skip
          refine cw_region ?_
          refine wl_val rfl (ex_eql rfl rfl) ?_
          refine wl_val rfl (ex_assign rfl) ?_
          refine wl_nil (nrm_then ?_)
          refine cw_if rfl (fun hc26 => ?_) (fun hc26 => ?_)
          · skip
            refine cw_region ?_
            refine wl_val rfl (ex_assign rfl) ?_
            refine wl_nil (nrm_block (nrm_then ?_))
            refine ⟨(_, _, _), ⟨rfl, rfl, rfl, trivial⟩, ⟨rfl, rfl, trivial⟩, (Evo.refl [] wq8), ?_⟩
            (try simp only [Arms, decide_eq_true_eq])
            grind [Arms]
          · skip
            refine cw_seq ?_
            refine cw_region ?_
            refine wl_val rfl (ex_eql rfl rfl) ?_
            refine wl_val rfl (ex_assign rfl) ?_
            refine wl_nil (nrm_then ?_)
            refine cw_if rfl (fun hc29 => ?_) (fun hc29 => ?_)
            · skip
              refine cw_region ?_
              refine wl_val rfl (ex_move rfl) ?_
              refine wl_val rfl (ex_assign rfl) ?_
              refine wl_nil (nrm_block (nrm_then ?_))
              refine ⟨(_, _, _), ⟨rfl, rfl, rfl, trivial⟩, ⟨rfl, rfl, trivial⟩, (Evo.refl [] wq8), ?_⟩
              (try simp only [Arms, decide_eq_true_eq])
              grind [Arms]
            · skip
              refine cw_seq ?_
              refine cw_region ?_
              refine wl_val rfl (ex_eql rfl rfl) ?_
              refine wl_val rfl (ex_assign rfl) ?_
              refine wl_nil (nrm_then ?_)
              refine cw_if rfl (fun hc32 => ?_) (fun hc32 => ?_)
              · skip
                refine cw_region ?_
                refine wl_val rfl (ex_fieldAddr rfl Try.fld29_3) ?_
                refine wl_val rfl (ex_load1 rfl Try.agg3 (cell_nth hB11 rfl)) ?_
                refine wl_val rfl (ex_leq rfl rfl) ?_
                refine wl_val rfl (ex_move rfl) ?_
                refine wl_split (t := 37) rfl (fun hs37 => ?_) (fun hs37 => ?_)
                · skip
                  refine wl_go rfl rfl rfl rfl ?_
                  refine wl_val rfl (ex_fieldAddr rfl Try.fld29_3) ?_
                  refine wl_go rfl rfl rfl rfl ?_
                  refine wl_val rfl (ex_load1 rfl Try.agg3 (cell_nth hB11 rfl)) ?_
                  refine wl_go rfl rfl rfl rfl ?_
                  refine wl_val rfl (ex_move rfl) ?_
                  refine wl_go rfl rfl rfl rfl ?_
                  refine wl_val rfl (ex_mul_i64 rfl rfl (by omega) (by omega)) ?_
                  refine wl_go rfl rfl rfl rfl ?_
                  refine wl_val rfl (ex_add_i64 rfl rfl (by omega) (by omega)) ?_
                  refine wl_go rfl rfl rfl rfl ?_
                  refine wl_val rfl (ex_leq rfl rfl) ?_
                  refine wl_val rfl (ex_pick_t rfl rfl) ?_
                  refine wl_val rfl (ex_assign rfl) ?_
                  refine wl_nil (nrm_block (nrm_then ?_))
                  refine ⟨(_, _, _), ⟨rfl, rfl, rfl, trivial⟩, ⟨rfl, rfl, trivial⟩, (Evo.refl [] wq8), ?_⟩
                  (try simp only [Arms, decide_eq_true_eq])
                  grind [Arms]
                · skip
                  refine wl_no rfl rfl rfl rfl rfl rfl ?_
                  refine wl_no rfl rfl rfl rfl rfl rfl ?_
                  refine wl_no rfl rfl rfl rfl rfl rfl ?_
                  refine wl_no rfl rfl rfl rfl rfl rfl ?_
                  refine wl_no rfl rfl rfl rfl rfl rfl ?_
                  refine wl_no rfl rfl rfl rfl rfl rfl ?_
                  refine wl_val rfl (ex_pick_f rfl rfl) ?_
                  refine wl_val rfl (ex_assign rfl) ?_
                  refine wl_nil (nrm_block (nrm_then ?_))
                  refine ⟨(_, _, _), ⟨rfl, rfl, rfl, trivial⟩, ⟨rfl, rfl, trivial⟩, (Evo.refl [] wq8), ?_⟩
                  (try simp only [Arms, decide_eq_true_eq])
                  grind [Arms]
              · skip
                refine cw_seq ?_
                refine cw_region ?_
                refine wl_val rfl (ex_eql rfl rfl) ?_
                refine wl_val rfl (ex_assign rfl) ?_
                refine wl_nil (nrm_then ?_)
                refine cw_if rfl (fun hc45 => ?_) (fun hc45 => ?_)
                · skip
                  refine cw_region ?_
                  refine wl_val rfl (ex_fieldAddr rfl Try.fld29_3) ?_
                  refine wl_val rfl (ex_load1 rfl Try.agg3 (cell_nth hB11 rfl)) ?_
                  refine wl_val rfl (ex_eql rfl rfl) ?_
                  refine wl_val rfl (ex_move rfl) ?_
                  refine wl_split (t := 50) rfl (fun hs50 => ?_) (fun hs50 => ?_)
                  · skip
                    refine wl_no rfl rfl rfl rfl rfl rfl ?_
                    refine wl_no rfl rfl rfl rfl rfl rfl ?_
                    refine wl_no rfl rfl rfl rfl rfl rfl ?_
                    refine wl_val rfl (ex_pick_t rfl rfl) ?_
                    refine wl_val rfl (ex_assign rfl) ?_
                    refine wl_nil (nrm_block (nrm_then ?_))
                    refine ⟨(_, _, _), ⟨rfl, rfl, rfl, trivial⟩, ⟨rfl, rfl, trivial⟩, (Evo.refl [] wq8), ?_⟩
                    (try simp only [Arms, decide_eq_true_eq])
                    grind [Arms]
                  · skip
                    refine wl_go rfl rfl rfl rfl ?_
                    refine wl_val rfl (ex_fieldAddr rfl Try.fld29_3) ?_
                    refine wl_go rfl rfl rfl rfl ?_
                    refine wl_val rfl (ex_load1 rfl Try.agg3 (cell_nth hB11 rfl)) ?_
                    refine wl_go rfl rfl rfl rfl ?_
                    refine wl_val rfl (ex_eql rfl rfl) ?_
                    refine wl_val rfl (ex_pick_f rfl rfl) ?_
                    refine wl_val rfl (ex_assign rfl) ?_
                    refine wl_nil (nrm_block (nrm_then ?_))
                    refine ⟨(_, _, _), ⟨rfl, rfl, rfl, trivial⟩, ⟨rfl, rfl, trivial⟩, (Evo.refl [] wq8), ?_⟩
                    (try simp only [Arms, decide_eq_true_eq])
                    grind [Arms]
                · skip
                  refine cw_skip (nrm_block (nrm_then ?_))
                  refine ⟨(_, _, _), ⟨rfl, rfl, rfl, trivial⟩, ⟨rfl, rfl, trivial⟩, (Evo.refl [] wq8), ?_⟩
                  (try simp only [Arms, decide_eq_true_eq])
                  grind [Arms]
      · skip
        rintro ⟨outs, alts, ab⟩ w12 ⟨hV13, harms⟩
        refine nrm_then ?_
        show CW _ _ _ _ [(7, .int .i64 outs), (8, .int .i64 alts), (9, .bool ab), (3, _), (6, _)] _
        try dsimp only at harms
        have hE14 := hE10.then hV13
        have hB15 := hV13.blk0 hB11
        refine cw_seq ?_
        refine cw_seq ?_
        refine cw_region ?_
        refine wl_val rfl (ex_fieldAddr rfl Try.fld29_1) ?_
        refine wl_val rfl (ex_load1 rfl Try.agg3 (cell_nth hB15 rfl)) ?_
        refine wl_val rfl (ex_lss rfl rfl) ?_
        refine wl_val rfl (ex_move rfl) ?_
        refine wl_split (t := 58) rfl (fun hs58 => ?_) (fun hs58 => ?_)
        · skip
          refine wl_no rfl rfl rfl rfl rfl rfl ?_
          refine wl_no rfl rfl rfl rfl rfl rfl ?_
          refine wl_no rfl rfl rfl rfl rfl rfl ?_
          refine wl_no rfl rfl rfl rfl rfl rfl ?_
          refine wl_val rfl (ex_pick_t rfl rfl) ?_
          refine wl_val rfl (ex_move rfl) ?_
          refine wl_no rfl rfl rfl rfl rfl rfl ?_
          refine wl_no rfl rfl rfl rfl rfl rfl ?_
          refine wl_no rfl rfl rfl rfl rfl rfl ?_
          refine wl_val rfl (ex_pick_t rfl rfl) ?_
          refine wl_val rfl (ex_move rfl) ?_
          refine wl_no rfl rfl rfl rfl rfl rfl ?_
          refine wl_no rfl rfl rfl rfl rfl rfl ?_
          refine wl_no rfl rfl rfl rfl rfl rfl ?_
          refine wl_no rfl rfl rfl rfl rfl rfl ?_
          refine wl_val rfl (ex_pick_t rfl rfl) ?_
          refine wl_val rfl (ex_move rfl) ?_
          refine wl_no rfl rfl rfl rfl rfl rfl ?_
          refine wl_no rfl rfl rfl rfl rfl rfl ?_
          refine wl_val rfl (ex_pick_t rfl rfl) ?_
          refine wl_nil (nrm_then ?_)
          refine cw_true rfl ?_
          refine cw_seq ?_
          refine cw_region ?_
          refine wl_val rfl (ex_assign rfl) ?_
          refine wl_nil (nrm_then ?_)
          refine cw_ret (ret_then (body_ret1 rfl rfl ?_))
          exact ⟨_, rfl, not_num (by simp only [NumOk, Arms] at *; grind), hE14⟩
        · skip
          refine wl_go rfl rfl rfl rfl ?_
          refine wl_val rfl (ex_fieldAddr rfl Try.fld29_1) ?_
          refine wl_go rfl rfl rfl rfl ?_
          refine wl_val rfl (ex_load1 rfl Try.agg3 (cell_nth hB15 rfl)) ?_
          refine wl_go rfl rfl rfl rfl ?_
          refine wl_val rfl (ex_move rfl) ?_
          refine wl_go rfl rfl rfl rfl ?_
          refine wl_val rfl (ex_geq rfl rfl) ?_
          refine wl_val rfl (ex_pick_f rfl rfl) ?_
          refine wl_val rfl (ex_move rfl) ?_
          refine wl_split (t := 64) rfl (fun hs64 => ?_) (fun hs64 => ?_)
          · skip
            refine wl_no rfl rfl rfl rfl rfl rfl ?_
            refine wl_no rfl rfl rfl rfl rfl rfl ?_
            refine wl_no rfl rfl rfl rfl rfl rfl ?_
            refine wl_val rfl (ex_pick_t rfl rfl) ?_
            refine wl_val rfl (ex_move rfl) ?_
            refine wl_no rfl rfl rfl rfl rfl rfl ?_
            refine wl_no rfl rfl rfl rfl rfl rfl ?_
            refine wl_no rfl rfl rfl rfl rfl rfl ?_
            refine wl_no rfl rfl rfl rfl rfl rfl ?_
            refine wl_val rfl (ex_pick_t rfl rfl) ?_
            refine wl_val rfl (ex_move rfl) ?_
            refine wl_no rfl rfl rfl rfl rfl rfl ?_
            refine wl_no rfl rfl rfl rfl rfl rfl ?_
            refine wl_val rfl (ex_pick_t rfl rfl) ?_
            refine wl_nil (nrm_then ?_)
            refine cw_true rfl ?_
            refine cw_seq ?_
            refine cw_region ?_
            refine wl_val rfl (ex_assign rfl) ?_
            refine wl_nil (nrm_then ?_)
            refine cw_ret (ret_then (body_ret1 rfl rfl ?_))
            exact ⟨_, rfl, not_num (by simp only [NumOk, Arms] at *; grind), hE14⟩
          · skip
            refine wl_go rfl rfl rfl rfl ?_
            refine wl_val rfl (ex_fieldAddr rfl Try.fld29_2) ?_
            refine wl_go rfl rfl rfl rfl ?_
            refine wl_val rfl (ex_load1 rfl Try.agg3 (cell_nth hB15 rfl)) ?_
            refine wl_go rfl rfl rfl rfl ?_
            refine wl_val rfl (ex_lss rfl rfl) ?_
            refine wl_val rfl (ex_pick_f rfl rfl) ?_
            refine wl_val rfl (ex_move rfl) ?_
            refine wl_split (t := 69) rfl (fun hs69 => ?_) (fun hs69 => ?_)
            · skip
              refine wl_no rfl rfl rfl rfl rfl rfl ?_
              refine wl_no rfl rfl rfl rfl rfl rfl ?_
              refine wl_no rfl rfl rfl rfl rfl rfl ?_
              refine wl_no rfl rfl rfl rfl rfl rfl ?_
              refine wl_val rfl (ex_pick_t rfl rfl) ?_
              refine wl_val rfl (ex_move rfl) ?_
              refine wl_no rfl rfl rfl rfl rfl rfl ?_
              refine wl_no rfl rfl rfl rfl rfl rfl ?_
              refine wl_val rfl (ex_pick_t rfl rfl) ?_
              refine wl_nil (nrm_then ?_)
              refine cw_true rfl ?_
              refine cw_seq ?_
              refine cw_region ?_
              refine wl_val rfl (ex_assign rfl) ?_
              refine wl_nil (nrm_then ?_)
              refine cw_ret (ret_then (body_ret1 rfl rfl ?_))
              exact ⟨_, rfl, not_num (by simp only [NumOk, Arms] at *; grind), hE14⟩
            · skip
              refine wl_go rfl rfl rfl rfl ?_
              refine wl_val rfl (ex_fieldAddr rfl Try.fld29_2) ?_
              refine wl_go rfl rfl rfl rfl ?_
              refine wl_val rfl (ex_load1 rfl Try.agg3 (cell_nth hB15 rfl)) ?_
              refine wl_go rfl rfl rfl rfl ?_
              refine wl_val rfl (ex_move rfl) ?_
              refine wl_go rfl rfl rfl rfl ?_
              refine wl_val rfl (ex_geq rfl rfl) ?_
              refine wl_val rfl (ex_pick_f rfl rfl) ?_
              refine wl_val rfl (ex_move rfl) ?_
              refine wl_split (t := 75) rfl (fun hs75 => ?_) (fun hs75 => ?_)
              · skip
                refine wl_no rfl rfl rfl rfl rfl rfl ?_
                refine wl_no rfl rfl rfl rfl rfl rfl ?_
                refine wl_val rfl (ex_pick_t rfl rfl) ?_
                refine wl_nil (nrm_then ?_)
                refine cw_true rfl ?_
                refine cw_seq ?_
                refine cw_region ?_
                refine wl_val rfl (ex_assign rfl) ?_
                refine wl_nil (nrm_then ?_)
                refine cw_ret (ret_then (body_ret1 rfl rfl ?_))
                exact ⟨_, rfl, not_num (by simp only [NumOk, Arms] at *; grind), hE14⟩
              · skip
                refine wl_go rfl rfl rfl rfl ?_
                refine wl_val rfl (ex_move rfl) ?_
                refine wl_go rfl rfl rfl rfl ?_
                refine wl_val rfl (ex_notb rfl) ?_
                refine wl_val rfl (ex_pick_f rfl rfl) ?_
                refine wl_nil (nrm_then ?_)
                refine cw_ifb rfl (fun hc78 => ?_) (fun hc78 => ?_)
                · skip
                  refine cw_seq ?_
                  refine cw_region ?_
                  refine wl_val rfl (ex_assign rfl) ?_
                  refine wl_nil (nrm_then ?_)
                  refine cw_ret (ret_then (body_ret1 rfl rfl ?_))
                  exact ⟨_, rfl, not_num (by simp only [NumOk, Arms] at *; grind), hE14⟩
                · skip
                  simp at hc78
                  refine cw_skip (nrm_then ?_)
                  refine cw_seq ?_
                  refine cw_seq ?_
                  refine cw_region ?_
                  refine wl_val rfl (ex_fieldAddr rfl Try.fld29_0) ?_
                  refine wl_val rfl (ex_load1 rfl Try.agg3 (cell_nth hB15 rfl)) ?_
                  refine wl_val rfl (ex_neq rfl rfl) ?_
                  refine wl_nil (nrm_then ?_)
                  refine cw_if rfl (fun hc81 => ?_) (fun hc81 => ?_)
                  · skip
                    refine cw_seq ?_
                    refine cw_region ?_
                    refine wl_val rfl (ex_fieldAddr rfl Try.fld29_4) ?_
                    refine wl_val rfl (ex_load1 rfl Try.agg27 (cell_nth hB15 rfl)) ?_
                    refine wl_val rfl (ex_len_slice rfl Try.underlying27 rfl) ?_
                    refine wl_val rfl (ex_eql rfl rfl) ?_
                    refine wl_val rfl (ex_assign rfl) ?_
                    refine wl_nil (nrm_then ?_)
                    refine cw_ret (ret_then (body_ret1 rfl rfl ?_))
                    exact ⟨_, rfl, by simp only [SoundI, NumOk, Arms, decide_eq_true_eq] at *; exact ⟨fun h => ⟨by grind, fun i hi => by omega⟩, fun h => by grind⟩, hE14⟩
                  · skip
                    refine cw_skip (nrm_then ?_)
                    refine cw_seq ?_
                    refine cw_seq ?_
                    refine cw_region ?_
                    refine wl_val rfl (ex_fieldAddr rfl Try.fld29_4) ?_
                    refine wl_val rfl (ex_load1 rfl Try.agg27 (cell_nth hB15 rfl)) ?_
                    refine wl_val rfl (ex_len_slice rfl Try.underlying27 rfl) ?_
                    refine wl_val rfl (ex_move rfl) ?_
                    refine wl_nil (nrm_then ?_)
                    refine cw_block ?_
                    refine cw_loop (α := Nat) (0) (fun k => [(89, .int .i64 (k : Nat))]) [(3, _), (87, _), (88, _)] (fun k wr => Evo [] w12 wr ∧ (k ≤ c.rs.length ∧ RsUp c.rs k)) (fun k => c.rs.length - k) ⟨rfl, trivial⟩ ⟨rfl, rfl, rfl, trivial⟩ ⟨Evo.refl _ _, ⟨Nat.zero_le _, fun i _ h => by omega⟩⟩ ?_
                    rintro k wr16 ⟨hV17, ⟨hk, hup⟩⟩
                    show CW _ _ _ _ [(89, _), (3, _), (87, _), (88, _)] _
                    have hE18 := hE14.then hV17
                    have hB19 := hV17.blk0 hB15
                    refine cw_seq ?_
                    refine cw_region ?_
                    refine wl_val rfl (ex_lss rfl rfl) ?_
                    refine wl_nil (nrm_then ?_)
                    refine cw_seq ?_
                    refine cw_if rfl (fun hc90 => ?_) (fun hc90 => ?_)
                    · skip
                      refine cw_skip (nrm_then ?_)
                      refine cw_seq ?_
                      refine cw_block ?_
                      refine cw_seq ?_
                      refine cw_region ?_
                      refine wl_val rfl (ex_move rfl) ?_
                      have hk' : k < c.rs.length := by omega
                      obtain ⟨b1, o1, vs1, ha1, -, -, hc1, rfl⟩ := e3 k hk'
                      refine wl_val rfl (ex_indexAddr (n := k) (by rw [ha1]; rfl) rfl Try.elem27 hk') ?_
                      refine wl_val rfl (ex_loadA rfl Try.agg66 Try.size66 (vs := [_, _]) rfl (hc1.evo hE18 (by simp))) ?_
                      refine wl_alloc rfl Try.zero66 fun b20 w21 hB22 hs23 hw24 => ?_
                      have hA25 := Apart.new (Lt.blk hB19) hs23
                      have hG26 := Ge.new hE18 hs23
                      have hG27 := Ge.new hV17 hs23
                      have hE28 := hE18.then hw24
                      have hE29 := hV17.then hw24
                      have hB30 := hw24.blk0 hB19
                      refine wl_val rfl (ex_assign rfl) ?_
                      refine wl_storeBlk rfl rfl Try.size66 hB22 rfl rfl ⟨by first | rfl | assumption, by first | rfl | assumption, trivial⟩ fun w31 hB32 hw33 => ?_
                      have hE34 := hE28.step hw33 hG26.mem1
                      have hE35 := hE29.step hw33 hG27.mem1
                      have hB36 := hw33.blk hB30 hA25.nmem1
                      refine wl_nil (nrm_then ?_)
                      refine cw_seq ?_
                      refine cw_quiet (by kernel_rfl) (by kernel_rfl) ?_
                      refine ql_val rfl (fun _ hq38 => ex_fieldAddr rfl Try.fld66_0) ?_
                      refine ql_val rfl (fun _ hq38 => ex_load1 rfl Try.agg21 (cell_nth (hq38.blk0 hB32) rfl)) ?_
                      refine ql_val rfl (fun _ hq38 => ex_lss rfl rfl) ?_
                      refine ql_val rfl (fun _ hq38 => ex_move rfl) ?_
                      refine ql_split (t := 97) rfl (fun hs97 => ?_) (fun hs97 => ?_)
                      · skip
                        refine ql_no rfl rfl rfl rfl rfl rfl ?_
                        refine ql_no rfl rfl rfl rfl rfl rfl ?_
                        refine ql_no rfl rfl rfl rfl rfl rfl ?_
                        refine ql_no rfl rfl rfl rfl rfl rfl ?_
                        refine ql_no rfl rfl rfl rfl rfl rfl ?_
                        refine ql_val rfl (fun _ hq38 => ex_pick_t rfl rfl) ?_
                        refine ql_val rfl (fun _ hq38 => ex_move rfl) ?_
                        refine ql_no rfl rfl rfl rfl rfl rfl ?_
                        refine ql_no rfl rfl rfl rfl rfl rfl ?_
                        refine ql_no rfl rfl rfl rfl rfl rfl ?_
                        refine ql_val rfl (fun _ hq38 => ex_pick_t rfl rfl) ?_
                        refine ql_val rfl (fun _ hq38 => ex_move rfl) ?_
                        refine ql_no rfl rfl rfl rfl rfl rfl ?_
                        refine ql_no rfl rfl rfl rfl rfl rfl ?_
                        refine ql_no rfl rfl rfl rfl rfl rfl ?_
                        refine ql_nou rfl rfl rfl rfl rfl ?_
                        refine ql_nou rfl rfl rfl rfl rfl ?_
                        refine ql_nou rfl rfl rfl rfl rfl ?_
                        refine ql_nou rfl rfl rfl rfl rfl ?_
                        refine ql_nou rfl rfl rfl rfl rfl ?_
                        refine ql_nou rfl rfl rfl rfl rfl ?_
                        refine ql_nou rfl rfl rfl rfl rfl ?_
                        refine ql_nou rfl rfl rfl rfl rfl ?_
                        refine ql_nou rfl rfl rfl rfl rfl ?_
                        refine ql_nou rfl rfl rfl rfl rfl ?_
                        refine ql_no rfl rfl rfl rfl rfl rfl ?_
                        refine ql_val rfl (fun _ hq38 => ex_pick_t rfl rfl) ?_
                        refine ql_nil (fun wq37 hq38 => nrm_then ?_)
                        have hE39 := hE34.then hq38
                        have hE40 := hE35.then hq38
                        have hB41 := hq38.blk0 hB36
                        refine cw_true rfl ?_
                        refine cw_seq ?_
                        refine cw_region ?_
                        refine wl_val rfl (ex_assign rfl) ?_
                        refine wl_nil (nrm_then ?_)
                        refine cw_ret (ret_block (ret_then (ret_then (ret_block (ret_then (body_ret1 rfl rfl ?_))))))
                        exact ⟨_, rfl, not_rs k hk' (by omega), hE39⟩
                      · skip
                        refine ql_go rfl rfl rfl rfl ?_
                        refine ql_val rfl (fun _ hq38 => ex_fieldAddr rfl Try.fld66_0) ?_
                        refine ql_go rfl rfl rfl rfl ?_
                        refine ql_val rfl (fun _ hq38 => ex_load1 rfl Try.agg21 (cell_nth (hq38.blk0 hB32) rfl)) ?_
                        refine ql_go rfl rfl rfl rfl ?_
                        refine ql_val rfl (fun _ hq38 => ex_fieldAddr rfl Try.fld66_1) ?_
                        refine ql_go rfl rfl rfl rfl ?_
                        refine ql_val rfl (fun _ hq38 => ex_load1 rfl Try.agg21 (cell_nth (hq38.blk0 hB32) rfl)) ?_
                        refine ql_go rfl rfl rfl rfl ?_
                        refine ql_val rfl (fun _ hq38 => ex_gtr rfl rfl) ?_
                        refine ql_val rfl (fun _ hq38 => ex_pick_f rfl rfl) ?_
                        refine ql_val rfl (fun _ hq38 => ex_move rfl) ?_
                        refine ql_split (t := 104) rfl (fun hs104 => ?_) (fun hs104 => ?_)
                        · skip
                          refine ql_no rfl rfl rfl rfl rfl rfl ?_
                          refine ql_no rfl rfl rfl rfl rfl rfl ?_
                          refine ql_no rfl rfl rfl rfl rfl rfl ?_
                          refine ql_val rfl (fun _ hq38 => ex_pick_t rfl rfl) ?_
                          refine ql_val rfl (fun _ hq38 => ex_move rfl) ?_
                          refine ql_no rfl rfl rfl rfl rfl rfl ?_
                          refine ql_no rfl rfl rfl rfl rfl rfl ?_
                          refine ql_no rfl rfl rfl rfl rfl rfl ?_
                          refine ql_nou rfl rfl rfl rfl rfl ?_
                          refine ql_nou rfl rfl rfl rfl rfl ?_
                          refine ql_nou rfl rfl rfl rfl rfl ?_
                          refine ql_nou rfl rfl rfl rfl rfl ?_
                          refine ql_nou rfl rfl rfl rfl rfl ?_
                          refine ql_nou rfl rfl rfl rfl rfl ?_
                          refine ql_nou rfl rfl rfl rfl rfl ?_
                          refine ql_nou rfl rfl rfl rfl rfl ?_
                          refine ql_nou rfl rfl rfl rfl rfl ?_
                          refine ql_nou rfl rfl rfl rfl rfl ?_
                          refine ql_no rfl rfl rfl rfl rfl rfl ?_
                          refine ql_val rfl (fun _ hq38 => ex_pick_t rfl rfl) ?_
                          refine ql_nil (fun wq37 hq38 => nrm_then ?_)
                          have hE42 := hE34.then hq38
                          have hE43 := hE35.then hq38
                          have hB44 := hq38.blk0 hB36
                          refine cw_true rfl ?_
                          refine cw_seq ?_
                          refine cw_region ?_
                          refine wl_val rfl (ex_assign rfl) ?_
                          refine wl_nil (nrm_then ?_)
                          refine cw_ret (ret_block (ret_then (ret_then (ret_block (ret_then (body_ret1 rfl rfl ?_))))))
                          exact ⟨_, rfl, not_rs k hk' (by omega), hE42⟩
                        · skip
                          refine ql_go rfl rfl rfl rfl ?_
                          refine ql_val rfl (fun _ hq38 => ex_fieldAddr rfl Try.fld66_1) ?_
                          refine ql_go rfl rfl rfl rfl ?_
                          refine ql_val rfl (fun _ hq38 => ex_load1 rfl Try.agg21 (cell_nth (hq38.blk0 hB32) rfl)) ?_
                          refine ql_go rfl rfl rfl rfl ?_
                          refine ql_val rfl (fun _ hq38 => ex_gtr rfl rfl) ?_
                          refine ql_val rfl (fun _ hq38 => ex_pick_f rfl rfl) ?_
                          refine ql_val rfl (fun _ hq38 => ex_move rfl) ?_
                          refine ql_split (t := 109) rfl (fun hs109 => ?_) (fun hs109 => ?_)
                          · skip
                            refine ql_no rfl rfl rfl rfl rfl rfl ?_
                            refine ql_no rfl rfl rfl rfl rfl rfl ?_
                            refine ql_no rfl rfl rfl rfl rfl rfl ?_
                            refine ql_nou rfl rfl rfl rfl rfl ?_
                            refine ql_nou rfl rfl rfl rfl rfl ?_
                            refine ql_nou rfl rfl rfl rfl rfl ?_
                            refine ql_nou rfl rfl rfl rfl rfl ?_
                            refine ql_nou rfl rfl rfl rfl rfl ?_
                            refine ql_nou rfl rfl rfl rfl rfl ?_
                            refine ql_nou rfl rfl rfl rfl rfl ?_
                            refine ql_nou rfl rfl rfl rfl rfl ?_
                            refine ql_nou rfl rfl rfl rfl rfl ?_
                            refine ql_nou rfl rfl rfl rfl rfl ?_
                            refine ql_no rfl rfl rfl rfl rfl rfl ?_
                            refine ql_val rfl (fun _ hq38 => ex_pick_t rfl rfl) ?_
                            refine ql_nil (fun wq37 hq38 => nrm_then ?_)
                            have hE45 := hE34.then hq38
                            have hE46 := hE35.then hq38
                            have hB47 := hq38.blk0 hB36
                            refine cw_true rfl ?_
                            refine cw_seq ?_
                            refine cw_region ?_
                            refine wl_val rfl (ex_assign rfl) ?_
                            refine wl_nil (nrm_then ?_)
                            refine cw_ret (ret_block (ret_then (ret_then (ret_block (ret_then (body_ret1 rfl rfl ?_))))))
                            exact ⟨_, rfl, not_rs k hk' (by omega), hE45⟩
                          · skip
                            refine ql_go rfl rfl rfl rfl ?_
                            refine ql_val rfl (fun _ hq38 => ex_move rfl) ?_
                            refine ql_go rfl rfl rfl rfl ?_
                            refine ql_val rfl (fun _ hq38 => ex_gtr rfl rfl) ?_
                            refine ql_go rfl rfl rfl rfl ?_
                            refine ql_val rfl (fun _ hq38 => ex_move rfl) ?_
                            refine ql_split (t := 112) rfl (fun hs112 => ?_) (fun hs112 => ?_)
                            · skip
                              refine ql_go rfl rfl rfl rfl ?_
                              refine ql_val rfl (fun _ hq38 => ex_fieldAddr rfl Try.fld66_0) ?_
                              refine ql_go rfl rfl rfl rfl ?_
                              refine ql_val rfl (fun _ hq38 => ex_load1 rfl Try.agg21 (cell_nth (hq38.blk0 hB32) rfl)) ?_
                              refine ql_go rfl rfl rfl rfl ?_
                              refine ql_val rfl (fun _ hq38 => ex_fieldAddr rfl Try.fld29_4) ?_
                              refine ql_go rfl rfl rfl rfl ?_
                              refine ql_val rfl (fun _ hq38 => ex_load1 rfl Try.agg27 (cell_nth (hq38.blk0 hB36) rfl)) ?_
                              refine ql_go rfl rfl rfl rfl ?_
                              refine ql_val rfl (fun _ hq38 => ex_move rfl) ?_
                              refine ql_go rfl rfl rfl rfl ?_
                              refine ql_val rfl (fun _ hq38 => ex_sub_i64 rfl rfl (by omega) (by omega)) ?_
                              refine ql_go rfl rfl rfl rfl ?_
                              obtain ⟨b2, o2, vs2, ha2, -, -, hc2, rfl⟩ := e3 (k - 1) (by omega)
                              refine ql_val rfl (fun _ hq => ex_indexAddrZ (n := k - 1) (by rw [ha2]; rfl) rfl (by omega) Try.elem27 (by omega)) ?_
                              refine ql_go rfl rfl rfl rfl ?_
                              refine ql_val rfl (fun _ hq38 => ex_fieldAddr rfl Try.fld66_1) ?_
                              refine ql_go rfl rfl rfl rfl ?_
                              refine ql_val rfl (fun _ hq38 => ex_load1 rfl Try.agg21 ((hc2.evo (hE34.then hq38) (by simp)) 1 _ rfl)) ?_
                              refine ql_go rfl rfl rfl rfl ?_
                              refine ql_val rfl (fun _ hq38 => ex_leq rfl rfl) ?_
                              refine ql_go rfl rfl rfl rfl ?_
                              refine ql_val rfl (fun _ hq38 => ex_pick_t rfl rfl) ?_
                              refine ql_val rfl (fun _ hq38 => ex_pick_f rfl rfl) ?_
                              refine ql_nil (fun wq37 hq38 => nrm_then ?_)
                              have hE48 := hE34.then hq38
                              have hE49 := hE35.then hq38
                              have hB50 := hq38.blk0 hB36
                              refine cw_if rfl (fun hc124 => ?_) (fun hc124 => ?_)
                              · skip
                                refine cw_seq ?_
                                refine cw_region ?_
                                refine wl_val rfl (ex_assign rfl) ?_
                                refine wl_nil (nrm_then ?_)
                                refine cw_ret (ret_block (ret_then (ret_then (ret_block (ret_then (body_ret1 rfl rfl ?_))))))
                                exact ⟨_, rfl, not_rs k hk' (fun h => by have := h.2.2.2 (by omega); omega), hE48⟩
                              · skip
                                refine cw_skip (nrm_block (nrm_then ?_))
                                refine cw_region ?_
                                refine wl_val rfl (ex_add_i64 rfl rfl (by omega) (by omega)) ?_
                                refine wl_val rfl (ex_move rfl) ?_
                                refine wl_nil (nrm_then ?_)
                                refine ⟨k + 1, ?_, ⟨rfl, trivial⟩, ⟨rfl, rfl, rfl, trivial⟩, hE49, ?_⟩
                                · omega
                                · skip
                                  exact ⟨by omega, hup.succ hk' (by omega) (by omega) (by omega) (fun h0 => by omega)⟩
                            · skip
                              refine ql_no rfl rfl rfl rfl rfl rfl ?_
                              refine ql_no rfl rfl rfl rfl rfl rfl ?_
                              refine ql_no rfl rfl rfl rfl rfl rfl ?_
                              refine ql_no rfl rfl rfl rfl rfl rfl ?_
                              refine ql_no rfl rfl rfl rfl rfl rfl ?_
                              refine ql_no rfl rfl rfl rfl rfl rfl ?_
                              refine ql_no rfl rfl rfl rfl rfl rfl ?_
                              refine ql_no rfl rfl rfl rfl rfl rfl ?_
                              refine ql_no rfl rfl rfl rfl rfl rfl ?_
                              refine ql_no rfl rfl rfl rfl rfl rfl ?_
                              refine ql_go rfl rfl rfl rfl ?_
                              refine ql_val rfl (fun _ hq38 => ex_pick_f rfl rfl) ?_
                              refine ql_val rfl (fun _ hq38 => ex_pick_f rfl rfl) ?_
                              refine ql_nil (fun wq37 hq38 => nrm_then ?_)
                              have hE51 := hE34.then hq38
                              have hE52 := hE35.then hq38
                              have hB53 := hq38.blk0 hB36
                              refine cw_false rfl ?_
                              refine cw_skip (nrm_block (nrm_then ?_))
                              refine cw_region ?_
                              refine wl_val rfl (ex_add_i64 rfl rfl (by omega) (by omega)) ?_
                              refine wl_val rfl (ex_move rfl) ?_
                              refine wl_nil (nrm_then ?_)
                              refine ⟨k + 1, ?_, ⟨rfl, trivial⟩, ⟨rfl, rfl, rfl, trivial⟩, hE52, ?_⟩
                              · omega
                              · skip
                                exact ⟨by omega, hup.succ hk' (by omega) (by omega) (by omega) (fun h0 => by omega)⟩
                    · skip
                      refine cw_exit (ex_then (ex_then (ex_here (nrm_then ?_))))
                      refine cw_seq ?_
                      refine cw_region ?_
                      refine wl_val rfl (ex_fieldAddr rfl Try.fld29_4) ?_
                      refine wl_val rfl (ex_load1 rfl Try.agg27 (cell_nth hB19 rfl)) ?_
                      refine wl_val rfl (ex_len_slice rfl Try.underlying27 rfl) ?_
                      refine wl_val rfl (ex_gtr rfl rfl) ?_
                      refine wl_val rfl (ex_assign rfl) ?_
                      refine wl_nil (nrm_then ?_)
                      refine cw_ret (body_ret1 rfl rfl ?_)
                      have hrs : RsUp c.rs c.rs.length := by have := Nat.le_antisymm hk (by omega : c.rs.length ≤ k); rw [this] at hup; exact hup
                      exact ⟨_, rfl, by simp only [SoundI, NumOk, Arms, decide_eq_true_eq] at *; exact ⟨fun h => ⟨by grind, hrs⟩, fun h => by grind⟩, hE18⟩

theorem rsound_ok {X : List Nat} {w : World} {vs : List Value} {c : Inst} {n g : Int} (hc : RInst X w vs c) (_hn : 0 ≤ n ∧ n ≤ 10000) (hg : 0 ≤ g ∧ g ≤ 100) :
    Calls Try.prog 25 #[.agg vs.toArray, .int .i64 n, .int .i64 g] w (Ret fun v w' => ∃ b, v = .bool b ∧ (b = true ↔ SoundI c n g) ∧ Evo [] w w') := by
  obtain ⟨hok, rv, rfl, hrv⟩ := hc
  have hop := hok.op
  have hout := hok.out
  have halt := hok.alt
  have harg := hok.arg
  have hln := hok.len
  obtain ⟨a3, c3, rfl, hl3, e3⟩ := hrv
  refine calls_of_cw (N := 150) Try.func25 rfl rfl rfl ?_
  refine cw_seq ?_
  refine cw_region ?_
  refine wl_boxA rfl rfl fun b1 w2 hB3 hs4 hw5 => ?_
  have hG6 := Ge.new (Evo.refl [] w) hs4
  have hE7 := (Evo.refl [] w).then hw5
  refine wl_val rfl (ex_assign rfl) ?_
  refine wl_nil (nrm_then ?_)
  refine cw_seq ?_
  refine cw_cut (α := Bool) (fun x => [(7, .bool x)]) [(1, _), (2, _), (3, _), (6, _)] (fun x wr => Evo [] w2 wr ∧ (x = true ↔ (c.op = 1 ∨ c.op = 11))) ⟨rfl, rfl, rfl, rfl, trivial⟩ ?_ ?_
  · skip
    refine cw_region ?_
    refine wl_val rfl (ex_fieldAddr rfl Try.fld29_0) ?_
    refine wl_val rfl (ex_load1 rfl Try.agg3 (cell_nth hB3 rfl)) ?_
    refine wl_val rfl (ex_eql rfl rfl) ?_
    refine wl_val rfl (ex_move rfl) ?_
    refine wl_split (t := 13) rfl (fun hs13 => ?_) (fun hs13 => ?_)
    · skip
      refine wl_no rfl rfl rfl rfl rfl rfl ?_
      refine wl_no rfl rfl rfl rfl rfl rfl ?_
      refine wl_no rfl rfl rfl rfl rfl rfl ?_
      refine wl_val rfl (ex_pick_t rfl rfl) ?_
      refine wl_val rfl (ex_assign rfl) ?_
      refine wl_nil (nrm_then ?_)
      refine ⟨_, ⟨rfl, trivial⟩, ⟨rfl, rfl, rfl, rfl, trivial⟩, (Evo.refl [] w2), ?_⟩
      grind
    · skip
      refine wl_go rfl rfl rfl rfl ?_
      refine wl_val rfl (ex_fieldAddr rfl Try.fld29_0) ?_
      refine wl_go rfl rfl rfl rfl ?_
      refine wl_val rfl (ex_load1 rfl Try.agg3 (cell_nth hB3 rfl)) ?_
      refine wl_go rfl rfl rfl rfl ?_
      refine wl_val rfl (ex_eql rfl rfl) ?_
      refine wl_val rfl (ex_pick_f rfl rfl) ?_
      refine wl_val rfl (ex_assign rfl) ?_
      refine wl_nil (nrm_then ?_)
      refine ⟨_, ⟨rfl, trivial⟩, ⟨rfl, rfl, rfl, rfl, trivial⟩, (Evo.refl [] w2), ?_⟩
      grind
  · skip
    rintro ends w8 ⟨hV9, hends⟩
    refine nrm_then ?_
    show CW _ _ _ _ [(7, _), (1, _), (2, _), (3, _), (6, _)] _
    have hE10 := hE7.then hV9
    have hB11 := hV9.blk0 hB3
    refine cw_seq ?_
    refine cw_cut (α := Unit) (fun x => []) [(1, _), (2, _), (3, _)] (fun x wr => Evo [] w8 wr ∧ (((c.op = 1 ∨ c.op = 11) → c.out = 0) ∧ (¬ (c.op = 1 ∨ c.op = 11) → 0 ≤ c.out ∧ c.out < n))) ⟨rfl, rfl, rfl, trivial⟩ ?_ ?_
    · skip
      refine cw_seq ?_
      refine cw_region ?_
      refine wl_val rfl (ex_move rfl) ?_
      refine wl_val rfl (ex_move rfl) ?_
      refine wl_splitb (t := 19) rfl (fun hs19 => ?_) (fun hs19 => ?_)
      · skip
        subst hs19
        refine wl_go rfl rfl rfl rfl ?_
        refine wl_val rfl (ex_fieldAddr rfl Try.fld29_1) ?_
        refine wl_go rfl rfl rfl rfl ?_
        refine wl_val rfl (ex_load1 rfl Try.agg3 (cell_nth hB11 rfl)) ?_
        refine wl_go rfl rfl rfl rfl ?_
        refine wl_val rfl (ex_neq rfl rfl) ?_
        refine wl_val rfl (ex_pick_t rfl rfl) ?_
        refine wl_val rfl (ex_move rfl) ?_
        refine wl_split (t := 24) rfl (fun hs24 => ?_) (fun hs24 => ?_)
        · skip
          refine wl_no rfl rfl rfl rfl rfl rfl ?_
          refine wl_no rfl rfl rfl rfl rfl rfl ?_
          refine wl_no rfl rfl rfl rfl rfl rfl ?_
          refine wl_nou rfl rfl rfl rfl rfl ?_
          refine wl_nou rfl rfl rfl rfl rfl ?_
          refine wl_nou rfl rfl rfl rfl rfl ?_
          refine wl_nou rfl rfl rfl rfl rfl ?_
          refine wl_nou rfl rfl rfl rfl rfl ?_
          refine wl_nou rfl rfl rfl rfl rfl ?_
          refine wl_nou rfl rfl rfl rfl rfl ?_
          refine wl_nou rfl rfl rfl rfl rfl ?_
          refine wl_nou rfl rfl rfl rfl rfl ?_
          refine wl_no rfl rfl rfl rfl rfl rfl ?_
          refine wl_val rfl (ex_pick_t rfl rfl) ?_
          refine wl_nil (nrm_then ?_)
          refine cw_true rfl ?_
          refine cw_seq ?_
          refine cw_region ?_
          refine wl_val rfl (ex_assign rfl) ?_
          refine wl_nil (nrm_then ?_)
          refine cw_ret (ret_then (ret_then (body_ret1 rfl rfl ?_)))
          exact ⟨_, rfl, not_num (by simp only [NumOk] at *; grind), hE10⟩
        · skip
          refine wl_go rfl rfl rfl rfl ?_
          refine wl_val rfl (ex_move rfl) ?_
          refine wl_go rfl rfl rfl rfl ?_
          refine wl_val rfl (ex_notb rfl) ?_
          refine wl_go rfl rfl rfl rfl ?_
          refine wl_val rfl (ex_move rfl) ?_
          refine wl_no rfl rfl rfl rfl rfl rfl ?_
          refine wl_no rfl rfl rfl rfl rfl rfl ?_
          refine wl_no rfl rfl rfl rfl rfl rfl ?_
          refine wl_no rfl rfl rfl rfl rfl rfl ?_
          refine wl_nou rfl rfl rfl rfl rfl ?_
          refine wl_nou rfl rfl rfl rfl rfl ?_
          refine wl_nou rfl rfl rfl rfl rfl ?_
          refine wl_nou rfl rfl rfl rfl rfl ?_
          refine wl_no rfl rfl rfl rfl rfl rfl ?_
          refine wl_go rfl rfl rfl rfl ?_
          refine wl_val rfl (ex_pick_f rfl rfl) ?_
          refine wl_val rfl (ex_pick_f rfl rfl) ?_
          refine wl_nil (nrm_then ?_)
          refine cw_false rfl ?_
          refine cw_skip (nrm_then ?_)
          refine ⟨(), trivial, ⟨rfl, rfl, rfl, trivial⟩, (Evo.refl [] w8), ?_⟩
          grind
      · skip
        subst hs19
        refine wl_no rfl rfl rfl rfl rfl rfl ?_
        refine wl_no rfl rfl rfl rfl rfl rfl ?_
        refine wl_no rfl rfl rfl rfl rfl rfl ?_
        refine wl_val rfl (ex_pick_f rfl rfl) ?_
        refine wl_val rfl (ex_move rfl) ?_
        refine wl_go rfl rfl rfl rfl ?_
        refine wl_val rfl (ex_move rfl) ?_
        refine wl_go rfl rfl rfl rfl ?_
        refine wl_val rfl (ex_notb rfl) ?_
        refine wl_go rfl rfl rfl rfl ?_
        refine wl_val rfl (ex_move rfl) ?_
        refine wl_go rfl rfl rfl rfl ?_
        refine wl_val rfl (ex_fieldAddr rfl Try.fld29_1) ?_
        refine wl_go rfl rfl rfl rfl ?_
        refine wl_val rfl (ex_load1 rfl Try.agg3 (cell_nth hB11 rfl)) ?_
        refine wl_go rfl rfl rfl rfl ?_
        refine wl_val rfl (ex_lss rfl rfl) ?_
        refine wl_go rfl rfl rfl rfl ?_
        refine wl_val rfl (ex_move rfl) ?_
        refine wl_split (t := 31) rfl (fun hs31 => ?_) (fun hs31 => ?_)
        · skip
          refine wl_no rfl rfl rfl rfl rfl rfl ?_
          refine wl_no rfl rfl rfl rfl rfl rfl ?_
          refine wl_no rfl rfl rfl rfl rfl rfl ?_
          refine wl_no rfl rfl rfl rfl rfl rfl ?_
          refine wl_go rfl rfl rfl rfl ?_
          refine wl_val rfl (ex_pick_t rfl rfl) ?_
          refine wl_go rfl rfl rfl rfl ?_
          refine wl_val rfl (ex_pick_t rfl rfl) ?_
          refine wl_val rfl (ex_pick_f rfl rfl) ?_
          refine wl_nil (nrm_then ?_)
          refine cw_true rfl ?_
          refine cw_seq ?_
          refine cw_region ?_
          refine wl_val rfl (ex_assign rfl) ?_
          refine wl_nil (nrm_then ?_)
          refine cw_ret (ret_then (ret_then (body_ret1 rfl rfl ?_)))
          exact ⟨_, rfl, not_num (by simp only [NumOk] at *; grind), hE10⟩
        · skip
          refine wl_go rfl rfl rfl rfl ?_
          refine wl_val rfl (ex_fieldAddr rfl Try.fld29_1) ?_
          refine wl_go rfl rfl rfl rfl ?_
          refine wl_val rfl (ex_load1 rfl Try.agg3 (cell_nth hB11 rfl)) ?_
          refine wl_go rfl rfl rfl rfl ?_
          refine wl_val rfl (ex_move rfl) ?_
          refine wl_go rfl rfl rfl rfl ?_
          refine wl_val rfl (ex_geq rfl rfl) ?_
          refine wl_go rfl rfl rfl rfl ?_
          refine wl_val rfl (ex_pick_f rfl rfl) ?_
          refine wl_go rfl rfl rfl rfl ?_
          refine wl_val rfl (ex_pick_t rfl rfl) ?_
          refine wl_val rfl (ex_pick_f rfl rfl) ?_
          refine wl_nil (nrm_then ?_)
          refine cw_if rfl (fun hc38 => ?_) (fun hc38 => ?_)
          · skip
            refine cw_seq ?_
            refine cw_region ?_
            refine wl_val rfl (ex_assign rfl) ?_
            refine wl_nil (nrm_then ?_)
            refine cw_ret (ret_then (ret_then (body_ret1 rfl rfl ?_)))
            exact ⟨_, rfl, not_num (by simp only [NumOk] at *; grind), hE10⟩
          · skip
            refine cw_skip (nrm_then ?_)
            refine ⟨(), trivial, ⟨rfl, rfl, rfl, trivial⟩, (Evo.refl [] w8), ?_⟩
            grind
    · skip
      rintro _ w12 ⟨hV13, ho⟩
      refine nrm_then ?_
      show CW _ _ _ _ [(1, _), (2, _), (3, _)] _
      have hE14 := hE10.then hV13
      have hB15 := hV13.blk0 hB11
      refine cw_seq ?_
      refine cw_cut (α := Unit) (fun x => []) [(2, _), (3, _)] (fun x wr => Evo [] w12 wr ∧ ((c.op = 3 → 0 ≤ c.alt ∧ c.alt < n) ∧ (c.op ≠ 3 → c.alt = 0))) ⟨rfl, rfl, trivial⟩ ?_ ?_
      · skip
        refine cw_seq ?_
        refine cw_region ?_
        refine wl_val rfl (ex_fieldAddr rfl Try.fld29_0) ?_
        refine wl_val rfl (ex_load1 rfl Try.agg3 (cell_nth hB15 rfl)) ?_
        refine wl_val rfl (ex_eql rfl rfl) ?_
        refine wl_val rfl (ex_move rfl) ?_
        refine wl_split (t := 42) rfl (fun hs42 => ?_) (fun hs42 => ?_)
        · skip
          refine wl_go rfl rfl rfl rfl ?_
          refine wl_val rfl (ex_fieldAddr rfl Try.fld29_2) ?_
          refine wl_go rfl rfl rfl rfl ?_
          refine wl_val rfl (ex_load1 rfl Try.agg3 (cell_nth hB15 rfl)) ?_
          refine wl_go rfl rfl rfl rfl ?_
          refine wl_val rfl (ex_lss rfl rfl) ?_
          refine wl_go rfl rfl rfl rfl ?_
          refine wl_val rfl (ex_move rfl) ?_
          refine wl_split (t := 46) rfl (fun hs46 => ?_) (fun hs46 => ?_)
          · skip
            refine wl_no rfl rfl rfl rfl rfl rfl ?_
            refine wl_no rfl rfl rfl rfl rfl rfl ?_
            refine wl_no rfl rfl rfl rfl rfl rfl ?_
            refine wl_no rfl rfl rfl rfl rfl rfl ?_
            refine wl_go rfl rfl rfl rfl ?_
            refine wl_val rfl (ex_pick_t rfl rfl) ?_
            refine wl_val rfl (ex_pick_t rfl rfl) ?_
            refine wl_val rfl (ex_move rfl) ?_
            refine wl_no rfl rfl rfl rfl rfl rfl ?_
            refine wl_no rfl rfl rfl rfl rfl rfl ?_
            refine wl_no rfl rfl rfl rfl rfl rfl ?_
            refine wl_no rfl rfl rfl rfl rfl rfl ?_
            refine wl_nou rfl rfl rfl rfl rfl ?_
            refine wl_nou rfl rfl rfl rfl rfl ?_
            refine wl_nou rfl rfl rfl rfl rfl ?_
            refine wl_no rfl rfl rfl rfl rfl rfl ?_
            refine wl_val rfl (ex_pick_t rfl rfl) ?_
            refine wl_nil (nrm_then ?_)
            refine cw_true rfl ?_
            refine cw_seq ?_
            refine cw_region ?_
            refine wl_val rfl (ex_assign rfl) ?_
            refine wl_nil (nrm_then ?_)
            refine cw_ret (ret_then (ret_then (body_ret1 rfl rfl ?_)))
            exact ⟨_, rfl, not_num (by simp only [NumOk] at *; grind), hE14⟩
          · skip
            refine wl_go rfl rfl rfl rfl ?_
            refine wl_val rfl (ex_fieldAddr rfl Try.fld29_2) ?_
            refine wl_go rfl rfl rfl rfl ?_
            refine wl_val rfl (ex_load1 rfl Try.agg3 (cell_nth hB15 rfl)) ?_
            refine wl_go rfl rfl rfl rfl ?_
            refine wl_val rfl (ex_move rfl) ?_
            refine wl_go rfl rfl rfl rfl ?_
            refine wl_val rfl (ex_geq rfl rfl) ?_
            refine wl_go rfl rfl rfl rfl ?_
            refine wl_val rfl (ex_pick_f rfl rfl) ?_
            refine wl_val rfl (ex_pick_t rfl rfl) ?_
            refine wl_val rfl (ex_move rfl) ?_
            refine wl_split (t := 53) rfl (fun hs53 => ?_) (fun hs53 => ?_)
            · skip
              refine wl_no rfl rfl rfl rfl rfl rfl ?_
              refine wl_no rfl rfl rfl rfl rfl rfl ?_
              refine wl_no rfl rfl rfl rfl rfl rfl ?_
              refine wl_no rfl rfl rfl rfl rfl rfl ?_
              refine wl_nou rfl rfl rfl rfl rfl ?_
              refine wl_nou rfl rfl rfl rfl rfl ?_
              refine wl_nou rfl rfl rfl rfl rfl ?_
              refine wl_no rfl rfl rfl rfl rfl rfl ?_
              refine wl_val rfl (ex_pick_t rfl rfl) ?_
              refine wl_nil (nrm_then ?_)
              refine cw_true rfl ?_
              refine cw_seq ?_
              refine cw_region ?_
              refine wl_val rfl (ex_assign rfl) ?_
              refine wl_nil (nrm_then ?_)
              refine cw_ret (ret_then (ret_then (body_ret1 rfl rfl ?_)))
              exact ⟨_, rfl, not_num (by simp only [NumOk] at *; grind), hE14⟩
            · skip
              refine wl_go rfl rfl rfl rfl ?_
              refine wl_val rfl (ex_fieldAddr rfl Try.fld29_0) ?_
              refine wl_go rfl rfl rfl rfl ?_
              refine wl_val rfl (ex_load1 rfl Try.agg3 (cell_nth hB15 rfl)) ?_
              refine wl_go rfl rfl rfl rfl ?_
              refine wl_val rfl (ex_neq rfl rfl) ?_
              refine wl_go rfl rfl rfl rfl ?_
              refine wl_val rfl (ex_move rfl) ?_
              refine wl_split (t := 57) rfl (fun hs57 => ?_) (fun hs57 => ?_)
              · skip
                refine wl_go rfl rfl rfl rfl ?_
                refine wl_val rfl (ex_fieldAddr rfl Try.fld29_2) ?_
                refine wl_go rfl rfl rfl rfl ?_
                refine wl_val rfl (ex_load1 rfl Try.agg3 (cell_nth hB15 rfl)) ?_
                refine wl_go rfl rfl rfl rfl ?_
                refine wl_val rfl (ex_neq rfl rfl) ?_
                refine wl_go rfl rfl rfl rfl ?_
                refine wl_val rfl (ex_pick_t rfl rfl) ?_
                refine wl_val rfl (ex_pick_f rfl rfl) ?_
                refine wl_nil (nrm_then ?_)
                refine cw_if rfl (fun hc62 => ?_) (fun hc62 => ?_)
                · skip
                  refine cw_seq ?_
                  refine cw_region ?_
                  refine wl_val rfl (ex_assign rfl) ?_
                  refine wl_nil (nrm_then ?_)
                  refine cw_ret (ret_then (ret_then (body_ret1 rfl rfl ?_)))
                  exact ⟨_, rfl, not_num (by simp only [NumOk] at *; grind), hE14⟩
                · skip
                  refine cw_skip (nrm_then ?_)
                  refine ⟨(), trivial, ⟨rfl, rfl, trivial⟩, (Evo.refl [] w12), ?_⟩
                  grind
              · skip
                refine wl_no rfl rfl rfl rfl rfl rfl ?_
                refine wl_no rfl rfl rfl rfl rfl rfl ?_
                refine wl_no rfl rfl rfl rfl rfl rfl ?_
                refine wl_go rfl rfl rfl rfl ?_
                refine wl_val rfl (ex_pick_f rfl rfl) ?_
                refine wl_val rfl (ex_pick_f rfl rfl) ?_
                refine wl_nil (nrm_then ?_)
                refine cw_false rfl ?_
                refine cw_skip (nrm_then ?_)
                refine ⟨(), trivial, ⟨rfl, rfl, trivial⟩, (Evo.refl [] w12), ?_⟩
                grind
        · skip
          refine wl_no rfl rfl rfl rfl rfl rfl ?_
          refine wl_no rfl rfl rfl rfl rfl rfl ?_
          refine wl_no rfl rfl rfl rfl rfl rfl ?_
          refine wl_no rfl rfl rfl rfl rfl rfl ?_
          refine wl_nou rfl rfl rfl rfl rfl ?_
          refine wl_nou rfl rfl rfl rfl rfl ?_
          refine wl_nou rfl rfl rfl rfl rfl ?_
          refine wl_nou rfl rfl rfl rfl rfl ?_
          refine wl_no rfl rfl rfl rfl rfl rfl ?_
          refine wl_val rfl (ex_pick_f rfl rfl) ?_
          refine wl_val rfl (ex_move rfl) ?_
          refine wl_go rfl rfl rfl rfl ?_
          refine wl_val rfl (ex_fieldAddr rfl Try.fld29_0) ?_
          refine wl_go rfl rfl rfl rfl ?_
          refine wl_val rfl (ex_load1 rfl Try.agg3 (cell_nth hB15 rfl)) ?_
          refine wl_go rfl rfl rfl rfl ?_
          refine wl_val rfl (ex_neq rfl rfl) ?_
          refine wl_go rfl rfl rfl rfl ?_
          refine wl_val rfl (ex_move rfl) ?_
          refine wl_split (t := 57) rfl (fun hs57 => ?_) (fun hs57 => ?_)
          · skip
            refine wl_go rfl rfl rfl rfl ?_
            refine wl_val rfl (ex_fieldAddr rfl Try.fld29_2) ?_
            refine wl_go rfl rfl rfl rfl ?_
            refine wl_val rfl (ex_load1 rfl Try.agg3 (cell_nth hB15 rfl)) ?_
            refine wl_go rfl rfl rfl rfl ?_
            refine wl_val rfl (ex_neq rfl rfl) ?_
            refine wl_go rfl rfl rfl rfl ?_
            refine wl_val rfl (ex_pick_t rfl rfl) ?_
            refine wl_val rfl (ex_pick_f rfl rfl) ?_
            refine wl_nil (nrm_then ?_)
            refine cw_if rfl (fun hc62 => ?_) (fun hc62 => ?_)
            · skip
              refine cw_seq ?_
              refine cw_region ?_
              refine wl_val rfl (ex_assign rfl) ?_
              refine wl_nil (nrm_then ?_)
              refine cw_ret (ret_then (ret_then (body_ret1 rfl rfl ?_)))
              exact ⟨_, rfl, not_num (by simp only [NumOk] at *; grind), hE14⟩
            · skip
              refine cw_skip (nrm_then ?_)
              refine ⟨(), trivial, ⟨rfl, rfl, trivial⟩, (Evo.refl [] w12), ?_⟩
              grind
          · skip
            refine wl_no rfl rfl rfl rfl rfl rfl ?_
            refine wl_no rfl rfl rfl rfl rfl rfl ?_
            refine wl_no rfl rfl rfl rfl rfl rfl ?_
            refine wl_go rfl rfl rfl rfl ?_
            refine wl_val rfl (ex_pick_f rfl rfl) ?_
            refine wl_val rfl (ex_pick_f rfl rfl) ?_
            refine wl_nil (nrm_then ?_)
            refine cw_false rfl ?_
            refine cw_skip (nrm_then ?_)
            refine ⟨(), trivial, ⟨rfl, rfl, trivial⟩, (Evo.refl [] w12), ?_⟩
            grind
      · skip
        rintro _ w16 ⟨hV17, ha⟩
        refine nrm_then ?_
        show CW _ _ _ _ [(2, _), (3, _)] _
        have hE18 := hE14.then hV17
        have hB19 := hV17.blk0 hB15
        refine cw_seq ?_
        refine cw_cut (α := Unit) (fun x => []) [(3, _)] (fun x wr => Evo [] w16 wr ∧ ((c.op = 4 → 2 ≤ c.arg ∧ c.arg ≤ 2 * g + 1) ∧ (c.op = 9 → c.arg = 0 ∨ c.arg = 1) ∧ (c.op ≠ 4 ∧ c.op ≠ 9 → c.arg = 0))) ⟨rfl, trivial⟩ ?_ ?_
        · skip
          refine cw_seq ?_
          refine cw_region ?_
          refine wl_val rfl (ex_fieldAddr rfl Try.fld29_0) ?_
          refine wl_val rfl (ex_load1 rfl Try.agg3 (cell_nth hB19 rfl)) ?_
          refine wl_nil (nrm_then ?_)
          refine cw_block ?_
          refine cw_seq ?_
          refine cw_region ?_
          refine wl_val rfl (ex_eql rfl rfl) ?_
          refine wl_val rfl (ex_assign rfl) ?_
          refine wl_nil (nrm_then ?_)
          refine cw_if rfl (fun hc68 => ?_) (fun hc68 => ?_)
          · skip
            refine cw_seq ?_
            refine cw_region ?_
            refine wl_val rfl (ex_fieldAddr rfl Try.fld29_3) ?_
            refine wl_val rfl (ex_load1 rfl Try.agg3 (cell_nth hB19 rfl)) ?_
            refine wl_val rfl (ex_lss rfl rfl) ?_
            refine wl_val rfl (ex_move rfl) ?_
            refine wl_split (t := 73) rfl (fun hs73 => ?_) (fun hs73 => ?_)
            · skip
              refine wl_no rfl rfl rfl rfl rfl rfl ?_
              refine wl_no rfl rfl rfl rfl rfl rfl ?_
              refine wl_no rfl rfl rfl rfl rfl rfl ?_
              refine wl_no rfl rfl rfl rfl rfl rfl ?_
              refine wl_no rfl rfl rfl rfl rfl rfl ?_
              refine wl_no rfl rfl rfl rfl rfl rfl ?_
              refine wl_val rfl (ex_pick_t rfl rfl) ?_
              refine wl_nil (nrm_then ?_)
              refine cw_true rfl ?_
              refine cw_seq ?_
              refine cw_region ?_
              refine wl_val rfl (ex_assign rfl) ?_
              refine wl_nil (nrm_then ?_)
              refine cw_ret (ret_block (ret_then (ret_then (body_ret1 rfl rfl ?_))))
              exact ⟨_, rfl, not_num (by simp only [NumOk] at *; grind), hE18⟩
            · skip
              refine wl_go rfl rfl rfl rfl ?_
              refine wl_val rfl (ex_fieldAddr rfl Try.fld29_3) ?_
              refine wl_go rfl rfl rfl rfl ?_
              refine wl_val rfl (ex_load1 rfl Try.agg3 (cell_nth hB19 rfl)) ?_
              refine wl_go rfl rfl rfl rfl ?_
              refine wl_val rfl (ex_move rfl) ?_
              refine wl_go rfl rfl rfl rfl ?_
              refine wl_val rfl (ex_mul_i64 rfl rfl (by omega) (by omega)) ?_
              refine wl_go rfl rfl rfl rfl ?_
              refine wl_val rfl (ex_add_i64 rfl rfl (by omega) (by omega)) ?_
              refine wl_go rfl rfl rfl rfl ?_
              refine wl_val rfl (ex_gtr rfl rfl) ?_
              refine wl_val rfl (ex_pick_f rfl rfl) ?_
              refine wl_nil (nrm_then ?_)
              refine cw_if rfl (fun hc80 => ?_) (fun hc80 => ?_)
              · skip
                refine cw_seq ?_
                refine cw_region ?_
                refine wl_val rfl (ex_assign rfl) ?_
                refine wl_nil (nrm_then ?_)
                refine cw_ret (ret_block (ret_then (ret_then (body_ret1 rfl rfl ?_))))
                exact ⟨_, rfl, not_num (by simp only [NumOk] at *; grind), hE18⟩
              · skip
                refine cw_skip (nrm_block (nrm_then ?_))
                refine ⟨(), trivial, ⟨rfl, trivial⟩, (Evo.refl [] w16), ?_⟩
                grind
          · skip
            refine cw_seq ?_
            refine cw_region ?_
            refine wl_val rfl (ex_eql rfl rfl) ?_
            refine wl_val rfl (ex_assign rfl) ?_
            refine wl_nil (nrm_then ?_)
            refine cw_if rfl (fun hc81 => ?_) (fun hc81 => ?_)
            · skip
              refine cw_seq ?_
              refine cw_region ?_
              refine wl_val rfl (ex_fieldAddr rfl Try.fld29_3) ?_
              refine wl_val rfl (ex_load1 rfl Try.agg3 (cell_nth hB19 rfl)) ?_
              refine wl_val rfl (ex_neq rfl rfl) ?_
              refine wl_val rfl (ex_move rfl) ?_
              refine wl_split (t := 86) rfl (fun hs86 => ?_) (fun hs86 => ?_)
              · skip
                refine wl_go rfl rfl rfl rfl ?_
                refine wl_val rfl (ex_fieldAddr rfl Try.fld29_3) ?_
                refine wl_go rfl rfl rfl rfl ?_
                refine wl_val rfl (ex_load1 rfl Try.agg3 (cell_nth hB19 rfl)) ?_
                refine wl_go rfl rfl rfl rfl ?_
                refine wl_val rfl (ex_neq rfl rfl) ?_
                refine wl_val rfl (ex_pick_t rfl rfl) ?_
                refine wl_nil (nrm_then ?_)
                refine cw_if rfl (fun hc90 => ?_) (fun hc90 => ?_)
                · skip
                  refine cw_seq ?_
                  refine cw_region ?_
                  refine wl_val rfl (ex_assign rfl) ?_
                  refine wl_nil (nrm_then ?_)
                  refine cw_ret (ret_block (ret_then (ret_then (body_ret1 rfl rfl ?_))))
                  exact ⟨_, rfl, not_num (by simp only [NumOk] at *; grind), hE18⟩
                · skip
                  refine cw_skip (nrm_block (nrm_then ?_))
                  refine ⟨(), trivial, ⟨rfl, trivial⟩, (Evo.refl [] w16), ?_⟩
                  grind
              · skip
                refine wl_no rfl rfl rfl rfl rfl rfl ?_
                refine wl_no rfl rfl rfl rfl rfl rfl ?_
                refine wl_no rfl rfl rfl rfl rfl rfl ?_
                refine wl_val rfl (ex_pick_f rfl rfl) ?_
                refine wl_nil (nrm_then ?_)
                refine cw_false rfl ?_
                refine cw_skip (nrm_block (nrm_then ?_))
                refine ⟨(), trivial, ⟨rfl, trivial⟩, (Evo.refl [] w16), ?_⟩
                grind
            · skip
              refine cw_seq ?_
              refine cw_region ?_
              refine wl_val rfl (ex_fieldAddr rfl Try.fld29_3) ?_
              refine wl_val rfl (ex_load1 rfl Try.agg3 (cell_nth hB19 rfl)) ?_
              refine wl_val rfl (ex_neq rfl rfl) ?_
              refine wl_nil (nrm_then ?_)
              refine cw_if rfl (fun hc67 => ?_) (fun hc67 => ?_)
              · skip
                refine cw_seq ?_
                refine cw_region ?_
                refine wl_val rfl (ex_assign rfl) ?_
                refine wl_nil (nrm_then ?_)
                refine cw_ret (ret_block (ret_then (ret_then (body_ret1 rfl rfl ?_))))
                exact ⟨_, rfl, not_num (by simp only [NumOk] at *; grind), hE18⟩
              · skip
                refine cw_skip (nrm_block (nrm_then ?_))
                refine ⟨(), trivial, ⟨rfl, trivial⟩, (Evo.refl [] w16), ?_⟩
                grind
        · skip
          rintro _ w20 ⟨hV21, hr⟩
          refine nrm_then ?_
          show CW _ _ _ _ [(3, _)] _
          have hE22 := hE18.then hV21
          have hB23 := hV21.blk0 hB19
          refine cw_seq ?_
          refine cw_seq ?_
          refine cw_region ?_
          refine wl_val rfl (ex_fieldAddr rfl Try.fld29_0) ?_
          refine wl_val rfl (ex_load1 rfl Try.agg3 (cell_nth hB23 rfl)) ?_
          refine wl_val rfl (ex_eql rfl rfl) ?_
          refine wl_val rfl (ex_fieldAddr rfl Try.fld29_4) ?_
          refine wl_val rfl (ex_load1 rfl Try.agg27 (cell_nth hB23 rfl)) ?_
          refine wl_val rfl (ex_len_slice rfl Try.underlying27 rfl) ?_
          refine wl_val rfl (ex_gtr rfl rfl) ?_
          refine wl_val rfl (ex_neqb rfl rfl Try.underlying4) ?_
          refine wl_nil (nrm_then ?_)
          refine cw_if rfl (fun hc98 => ?_) (fun hc98 => ?_)
          · skip
            refine cw_seq ?_
            refine cw_region ?_
            refine wl_val rfl (ex_assign rfl) ?_
            refine wl_nil (nrm_then ?_)
            refine cw_ret (ret_then (body_ret1 rfl rfl ?_))
            exact ⟨_, rfl, not_num (by simp only [NumOk] at *; grind), hE22⟩
          · skip
            refine cw_skip (nrm_then ?_)
            refine cw_seq ?_
            refine cw_seq ?_
            refine cw_region ?_
            refine wl_val rfl (ex_assign rfl) ?_
            refine wl_nil (nrm_then ?_)
            refine cw_block ?_
            refine cw_loop (α := Nat) (0) (fun k => [(8, .int .i64 (k : Nat))]) [(3, _)] (fun k wr => Evo [] w20 wr ∧ (k ≤ c.rs.length ∧ RsUp c.rs k)) (fun k => c.rs.length - k) ⟨rfl, trivial⟩ ⟨rfl, trivial⟩ ⟨Evo.refl _ _, ⟨Nat.zero_le _, fun i _ h => by omega⟩⟩ ?_
            rintro k wr24 ⟨hV25, ⟨hk, hup⟩⟩
            show CW _ _ _ _ [(8, _), (3, _)] _
            have hE26 := hE22.then hV25
            have hB27 := hV25.blk0 hB23
            refine cw_seq ?_
            refine cw_seq ?_
            refine cw_region ?_
            refine wl_val rfl (ex_move rfl) ?_
            refine wl_val rfl (ex_fieldAddr rfl Try.fld29_4) ?_
            refine wl_val rfl (ex_load1 rfl Try.agg27 (cell_nth hB27 rfl)) ?_
            refine wl_val rfl (ex_len_slice rfl Try.underlying27 rfl) ?_
            refine wl_val rfl (ex_lss rfl rfl) ?_
            refine wl_nil (nrm_then ?_)
            refine cw_if rfl (fun hc103 => ?_) (fun hc103 => ?_)
            · skip
              refine cw_skip (nrm_then ?_)
              refine cw_seq ?_
              refine cw_block ?_
              refine cw_seq ?_
              refine cw_region ?_
              refine wl_val rfl (ex_fieldAddr rfl Try.fld29_4) ?_
              refine wl_val rfl (ex_load1 rfl Try.agg27 (cell_nth hB27 rfl)) ?_
              refine wl_val rfl (ex_move rfl) ?_
              have hk' : k < c.rs.length := by omega
              obtain ⟨b1, o1, vs1, ha1, -, -, hc1, rfl⟩ := e3 k hk'
              refine wl_val rfl (ex_indexAddr (n := k) (by rw [ha1]; rfl) rfl Try.elem27 hk') ?_
              refine wl_val rfl (ex_loadA rfl Try.agg66 Try.size66 (vs := [_, _]) rfl (hc1.evo hE26 (by simp))) ?_
              refine wl_alloc rfl Try.zero66 fun b28 w29 hB30 hs31 hw32 => ?_
              have hA33 := Apart.new (Lt.blk hB27) hs31
              have hG34 := Ge.new hE26 hs31
              have hG35 := Ge.new hV25 hs31
              have hE36 := hE26.then hw32
              have hE37 := hV25.then hw32
              have hB38 := hw32.blk0 hB27
              refine wl_storeBlk rfl rfl Try.size66 hB30 rfl rfl ⟨by first | rfl | assumption, by first | rfl | assumption, trivial⟩ fun w39 hB40 hw41 => ?_
              have hE42 := hE36.step hw41 hG34.mem1
              have hE43 := hE37.step hw41 hG35.mem1
              have hB44 := hw41.blk hB38 hA33.nmem1
              refine wl_nil (nrm_then ?_)
              refine cw_seq ?_
              refine cw_quiet (by kernel_rfl) (by kernel_rfl) ?_
              refine ql_val rfl (fun _ hq46 => ex_fieldAddr rfl Try.fld66_0) ?_
              refine ql_val rfl (fun _ hq46 => ex_load1 rfl Try.agg21 (cell_nth (hq46.blk0 hB40) rfl)) ?_
              refine ql_val rfl (fun _ hq46 => ex_lss rfl rfl) ?_
              refine ql_val rfl (fun _ hq46 => ex_move rfl) ?_
              refine ql_split (t := 114) rfl (fun hs114 => ?_) (fun hs114 => ?_)
              · skip
                refine ql_no rfl rfl rfl rfl rfl rfl ?_
                refine ql_no rfl rfl rfl rfl rfl rfl ?_
                refine ql_no rfl rfl rfl rfl rfl rfl ?_
                refine ql_no rfl rfl rfl rfl rfl rfl ?_
                refine ql_no rfl rfl rfl rfl rfl rfl ?_
                refine ql_val rfl (fun _ hq46 => ex_pick_t rfl rfl) ?_
                refine ql_val rfl (fun _ hq46 => ex_move rfl) ?_
                refine ql_no rfl rfl rfl rfl rfl rfl ?_
                refine ql_no rfl rfl rfl rfl rfl rfl ?_
                refine ql_no rfl rfl rfl rfl rfl rfl ?_
                refine ql_val rfl (fun _ hq46 => ex_pick_t rfl rfl) ?_
                refine ql_val rfl (fun _ hq46 => ex_move rfl) ?_
                refine ql_no rfl rfl rfl rfl rfl rfl ?_
                refine ql_no rfl rfl rfl rfl rfl rfl ?_
                refine ql_no rfl rfl rfl rfl rfl rfl ?_
                refine ql_nou rfl rfl rfl rfl rfl ?_
                refine ql_nou rfl rfl rfl rfl rfl ?_
                refine ql_nou rfl rfl rfl rfl rfl ?_
                refine ql_nou rfl rfl rfl rfl rfl ?_
                refine ql_nou rfl rfl rfl rfl rfl ?_
                refine ql_nou rfl rfl rfl rfl rfl ?_
                refine ql_nou rfl rfl rfl rfl rfl ?_
                refine ql_nou rfl rfl rfl rfl rfl ?_
                refine ql_nou rfl rfl rfl rfl rfl ?_
                refine ql_nou rfl rfl rfl rfl rfl ?_
                refine ql_no rfl rfl rfl rfl rfl rfl ?_
                refine ql_val rfl (fun _ hq46 => ex_pick_t rfl rfl) ?_
                refine ql_nil (fun wq45 hq46 => nrm_then ?_)
                have hE47 := hE42.then hq46
                have hE48 := hE43.then hq46
                have hB49 := hq46.blk0 hB44
                refine cw_true rfl ?_
                refine cw_seq ?_
                refine cw_region ?_
                refine wl_val rfl (ex_assign rfl) ?_
                refine wl_nil (nrm_then ?_)
                refine cw_ret (ret_block (ret_then (ret_then (ret_block (ret_then (body_ret1 rfl rfl ?_))))))
                exact ⟨_, rfl, not_rs k hk' (by omega), hE47⟩
              · skip
                refine ql_go rfl rfl rfl rfl ?_
                refine ql_val rfl (fun _ hq46 => ex_fieldAddr rfl Try.fld66_0) ?_
                refine ql_go rfl rfl rfl rfl ?_
                refine ql_val rfl (fun _ hq46 => ex_load1 rfl Try.agg21 (cell_nth (hq46.blk0 hB40) rfl)) ?_
                refine ql_go rfl rfl rfl rfl ?_
                refine ql_val rfl (fun _ hq46 => ex_fieldAddr rfl Try.fld66_1) ?_
                refine ql_go rfl rfl rfl rfl ?_
                refine ql_val rfl (fun _ hq46 => ex_load1 rfl Try.agg21 (cell_nth (hq46.blk0 hB40) rfl)) ?_
                refine ql_go rfl rfl rfl rfl ?_
                refine ql_val rfl (fun _ hq46 => ex_gtr rfl rfl) ?_
                refine ql_val rfl (fun _ hq46 => ex_pick_f rfl rfl) ?_
                refine ql_val rfl (fun _ hq46 => ex_move rfl) ?_
                refine ql_split (t := 121) rfl (fun hs121 => ?_) (fun hs121 => ?_)
                · skip
                  refine ql_no rfl rfl rfl rfl rfl rfl ?_
                  refine ql_no rfl rfl rfl rfl rfl rfl ?_
                  refine ql_no rfl rfl rfl rfl rfl rfl ?_
                  refine ql_val rfl (fun _ hq46 => ex_pick_t rfl rfl) ?_
                  refine ql_val rfl (fun _ hq46 => ex_move rfl) ?_
                  refine ql_no rfl rfl rfl rfl rfl rfl ?_
                  refine ql_no rfl rfl rfl rfl rfl rfl ?_
                  refine ql_no rfl rfl rfl rfl rfl rfl ?_
                  refine ql_nou rfl rfl rfl rfl rfl ?_
                  refine ql_nou rfl rfl rfl rfl rfl ?_
                  refine ql_nou rfl rfl rfl rfl rfl ?_
                  refine ql_nou rfl rfl rfl rfl rfl ?_
                  refine ql_nou rfl rfl rfl rfl rfl ?_
                  refine ql_nou rfl rfl rfl rfl rfl ?_
                  refine ql_nou rfl rfl rfl rfl rfl ?_
                  refine ql_nou rfl rfl rfl rfl rfl ?_
                  refine ql_nou rfl rfl rfl rfl rfl ?_
                  refine ql_nou rfl rfl rfl rfl rfl ?_
                  refine ql_no rfl rfl rfl rfl rfl rfl ?_
                  refine ql_val rfl (fun _ hq46 => ex_pick_t rfl rfl) ?_
                  refine ql_nil (fun wq45 hq46 => nrm_then ?_)
                  have hE50 := hE42.then hq46
                  have hE51 := hE43.then hq46
                  have hB52 := hq46.blk0 hB44
                  refine cw_true rfl ?_
                  refine cw_seq ?_
                  refine cw_region ?_
                  refine wl_val rfl (ex_assign rfl) ?_
                  refine wl_nil (nrm_then ?_)
                  refine cw_ret (ret_block (ret_then (ret_then (ret_block (ret_then (body_ret1 rfl rfl ?_))))))
                  exact ⟨_, rfl, not_rs k hk' (by omega), hE50⟩
                · skip
                  refine ql_go rfl rfl rfl rfl ?_
                  refine ql_val rfl (fun _ hq46 => ex_fieldAddr rfl Try.fld66_1) ?_
                  refine ql_go rfl rfl rfl rfl ?_
                  refine ql_val rfl (fun _ hq46 => ex_load1 rfl Try.agg21 (cell_nth (hq46.blk0 hB40) rfl)) ?_
                  refine ql_go rfl rfl rfl rfl ?_
                  refine ql_val rfl (fun _ hq46 => ex_gtr rfl rfl) ?_
                  refine ql_val rfl (fun _ hq46 => ex_pick_f rfl rfl) ?_
                  refine ql_val rfl (fun _ hq46 => ex_move rfl) ?_
                  refine ql_split (t := 126) rfl (fun hs126 => ?_) (fun hs126 => ?_)
                  · skip
                    refine ql_no rfl rfl rfl rfl rfl rfl ?_
                    refine ql_no rfl rfl rfl rfl rfl rfl ?_
                    refine ql_no rfl rfl rfl rfl rfl rfl ?_
                    refine ql_nou rfl rfl rfl rfl rfl ?_
                    refine ql_nou rfl rfl rfl rfl rfl ?_
                    refine ql_nou rfl rfl rfl rfl rfl ?_
                    refine ql_nou rfl rfl rfl rfl rfl ?_
                    refine ql_nou rfl rfl rfl rfl rfl ?_
                    refine ql_nou rfl rfl rfl rfl rfl ?_
                    refine ql_nou rfl rfl rfl rfl rfl ?_
                    refine ql_nou rfl rfl rfl rfl rfl ?_
                    refine ql_nou rfl rfl rfl rfl rfl ?_
                    refine ql_nou rfl rfl rfl rfl rfl ?_
                    refine ql_no rfl rfl rfl rfl rfl rfl ?_
                    refine ql_val rfl (fun _ hq46 => ex_pick_t rfl rfl) ?_
                    refine ql_nil (fun wq45 hq46 => nrm_then ?_)
                    have hE53 := hE42.then hq46
                    have hE54 := hE43.then hq46
                    have hB55 := hq46.blk0 hB44
                    refine cw_true rfl ?_
                    refine cw_seq ?_
                    refine cw_region ?_
                    refine wl_val rfl (ex_assign rfl) ?_
                    refine wl_nil (nrm_then ?_)
                    refine cw_ret (ret_block (ret_then (ret_then (ret_block (ret_then (body_ret1 rfl rfl ?_))))))
                    exact ⟨_, rfl, not_rs k hk' (by omega), hE53⟩
                  · skip
                    refine ql_go rfl rfl rfl rfl ?_
                    refine ql_val rfl (fun _ hq46 => ex_move rfl) ?_
                    refine ql_go rfl rfl rfl rfl ?_
                    refine ql_val rfl (fun _ hq46 => ex_gtr rfl rfl) ?_
                    refine ql_go rfl rfl rfl rfl ?_
                    refine ql_val rfl (fun _ hq46 => ex_move rfl) ?_
                    refine ql_split (t := 129) rfl (fun hs129 => ?_) (fun hs129 => ?_)
                    · skip
                      refine ql_go rfl rfl rfl rfl ?_
                      refine ql_val rfl (fun _ hq46 => ex_fieldAddr rfl Try.fld66_0) ?_
                      refine ql_go rfl rfl rfl rfl ?_
                      refine ql_val rfl (fun _ hq46 => ex_load1 rfl Try.agg21 (cell_nth (hq46.blk0 hB40) rfl)) ?_
                      refine ql_go rfl rfl rfl rfl ?_
                      refine ql_val rfl (fun _ hq46 => ex_fieldAddr rfl Try.fld29_4) ?_
                      refine ql_go rfl rfl rfl rfl ?_
                      refine ql_val rfl (fun _ hq46 => ex_load1 rfl Try.agg27 (cell_nth (hq46.blk0 hB44) rfl)) ?_
                      refine ql_go rfl rfl rfl rfl ?_
                      refine ql_val rfl (fun _ hq46 => ex_move rfl) ?_
                      refine ql_go rfl rfl rfl rfl ?_
                      refine ql_val rfl (fun _ hq46 => ex_sub_i64 rfl rfl (by omega) (by omega)) ?_
                      refine ql_go rfl rfl rfl rfl ?_
                      obtain ⟨b2, o2, vs2, ha2, -, -, hc2, rfl⟩ := e3 (k - 1) (by omega)
                      refine ql_val rfl (fun _ hq => ex_indexAddrZ (n := k - 1) (by rw [ha2]; rfl) rfl (by omega) Try.elem27 (by omega)) ?_
                      refine ql_go rfl rfl rfl rfl ?_
                      refine ql_val rfl (fun _ hq46 => ex_fieldAddr rfl Try.fld66_1) ?_
                      refine ql_go rfl rfl rfl rfl ?_
                      refine ql_val rfl (fun _ hq46 => ex_load1 rfl Try.agg21 ((hc2.evo (hE42.then hq46) (by simp)) 1 _ rfl)) ?_
                      refine ql_go rfl rfl rfl rfl ?_
                      refine ql_val rfl (fun _ hq46 => ex_leq rfl rfl) ?_
                      refine ql_go rfl rfl rfl rfl ?_
                      refine ql_val rfl (fun _ hq46 => ex_pick_t rfl rfl) ?_
                      refine ql_val rfl (fun _ hq46 => ex_pick_f rfl rfl) ?_
                      refine ql_nil (fun wq45 hq46 => nrm_then ?_)
                      have hE56 := hE42.then hq46
                      have hE57 := hE43.then hq46
                      have hB58 := hq46.blk0 hB44
                      refine cw_if rfl (fun hc141 => ?_) (fun hc141 => ?_)
                      · skip
                        refine cw_seq ?_
                        refine cw_region ?_
                        refine wl_val rfl (ex_assign rfl) ?_
                        refine wl_nil (nrm_then ?_)
                        refine cw_ret (ret_block (ret_then (ret_then (ret_block (ret_then (body_ret1 rfl rfl ?_))))))
                        exact ⟨_, rfl, not_rs k hk' (fun h => by have := h.2.2.2 (by omega); omega), hE56⟩
                      · skip
                        refine cw_skip (nrm_block (nrm_then ?_))
                        refine cw_region ?_
                        refine wl_val rfl (ex_move rfl) ?_
                        refine wl_val rfl (ex_add_i64 rfl rfl (by omega) (by omega)) ?_
                        refine wl_val rfl (ex_assign rfl) ?_
                        refine wl_nil (nrm_then ?_)
                        refine ⟨k + 1, ?_, ⟨rfl, trivial⟩, ⟨rfl, trivial⟩, hE57, ?_⟩
                        · omega
                        · skip
                          exact ⟨by omega, hup.succ hk' (by omega) (by omega) (by omega) (fun h0 => by omega)⟩
                    · skip
                      refine ql_no rfl rfl rfl rfl rfl rfl ?_
                      refine ql_no rfl rfl rfl rfl rfl rfl ?_
                      refine ql_no rfl rfl rfl rfl rfl rfl ?_
                      refine ql_no rfl rfl rfl rfl rfl rfl ?_
                      refine ql_no rfl rfl rfl rfl rfl rfl ?_
                      refine ql_no rfl rfl rfl rfl rfl rfl ?_
                      refine ql_no rfl rfl rfl rfl rfl rfl ?_
                      refine ql_no rfl rfl rfl rfl rfl rfl ?_
                      refine ql_no rfl rfl rfl rfl rfl rfl ?_
                      refine ql_no rfl rfl rfl rfl rfl rfl ?_
                      refine ql_go rfl rfl rfl rfl ?_
                      refine ql_val rfl (fun _ hq46 => ex_pick_f rfl rfl) ?_
                      refine ql_val rfl (fun _ hq46 => ex_pick_f rfl rfl) ?_
                      refine ql_nil (fun wq45 hq46 => nrm_then ?_)
                      have hE59 := hE42.then hq46
                      have hE60 := hE43.then hq46
                      have hB61 := hq46.blk0 hB44
                      refine cw_false rfl ?_
                      refine cw_skip (nrm_block (nrm_then ?_))
                      refine cw_region ?_
                      refine wl_val rfl (ex_move rfl) ?_
                      refine wl_val rfl (ex_add_i64 rfl rfl (by omega) (by omega)) ?_
                      refine wl_val rfl (ex_assign rfl) ?_
                      refine wl_nil (nrm_then ?_)
                      refine ⟨k + 1, ?_, ⟨rfl, trivial⟩, ⟨rfl, trivial⟩, hE60, ?_⟩
                      · omega
                      · skip
                        exact ⟨by omega, hup.succ hk' (by omega) (by omega) (by omega) (fun h0 => by omega)⟩
            · skip
              refine cw_exit (ex_then (ex_then (ex_here (nrm_then ?_))))
              refine cw_seq ?_
              refine cw_region ?_
              refine wl_val rfl (ex_fieldAddr rfl Try.fld29_0) ?_
              refine wl_val rfl (ex_load1 rfl Try.agg3 (cell_nth hB27 rfl)) ?_
              refine wl_val rfl (ex_geq rfl rfl) ?_
              refine wl_val rfl (ex_move rfl) ?_
              refine wl_split (t := 145) rfl (fun hs145 => ?_) (fun hs145 => ?_)
              · skip
                refine wl_go rfl rfl rfl rfl ?_
                refine wl_val rfl (ex_fieldAddr rfl Try.fld29_0) ?_
                refine wl_go rfl rfl rfl rfl ?_
                refine wl_val rfl (ex_load1 rfl Try.agg3 (cell_nth hB27 rfl)) ?_
                refine wl_go rfl rfl rfl rfl ?_
                refine wl_val rfl (ex_leq rfl rfl) ?_
                refine wl_val rfl (ex_pick_t rfl rfl) ?_
                refine wl_val rfl (ex_assign rfl) ?_
                refine wl_nil (nrm_then ?_)
                refine cw_ret (body_ret1 rfl rfl ?_)
                have hrs : RsUp c.rs c.rs.length := by have := Nat.le_antisymm hk (by omega : c.rs.length ≤ k); rw [this] at hup; exact hup
                exact ⟨_, rfl, by simp only [SoundI, NumOk, decide_eq_true_eq] at *; exact ⟨fun h => ⟨by grind, hrs⟩, fun h => by grind⟩, hE26⟩
              · skip
                refine wl_no rfl rfl rfl rfl rfl rfl ?_
                refine wl_no rfl rfl rfl rfl rfl rfl ?_
                refine wl_no rfl rfl rfl rfl rfl rfl ?_
                refine wl_val rfl (ex_pick_f rfl rfl) ?_
                refine wl_val rfl (ex_assign rfl) ?_
                refine wl_nil (nrm_then ?_)
                refine cw_ret (body_ret1 rfl rfl ?_)
                exact ⟨_, rfl, not_num (by simp only [NumOk] at *; grind), hE26⟩

end Go.Proofs.Ytopjnoblhleimaa
