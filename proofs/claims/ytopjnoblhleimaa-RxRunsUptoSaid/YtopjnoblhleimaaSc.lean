import Derived.Test.YtopjnoblhleimaaSb
namespace Go.Proofs.Ytopjnoblhleimaa
open Go.Proofs
open Go.W
attribute [local irreducible] Decidable.decide
set_option linter.unusedSimpArgs false
set_option linter.unusedVariables false
theorem Try.agg22 : aggB Try.prog 22 = some false := by kernel_rfl
theorem Try.agg23 : aggB Try.prog 23 = some false := by kernel_rfl
theorem Try.fld25_0 : fieldB Try.prog 25 0 = some 0 := by kernel_rfl
theorem Try.fld25_1 : fieldB Try.prog 25 1 = some 1 := by kernel_rfl
theorem Try.fld25_2 : fieldB Try.prog 25 2 = some 2 := by kernel_rfl
theorem Try.fld25_3 : fieldB Try.prog 25 3 = some 3 := by kernel_rfl
theorem Try.goes22 : Goes Try.prog 22 := ⟨_, Try.func22, by kernel_rfl, by kernel_rfl⟩
theorem Try.goes23 : Goes Try.prog 23 := ⟨_, Try.func23, by kernel_rfl, by kernel_rfl⟩
theorem Try.goes24 : Goes Try.prog 24 := ⟨_, Try.func24, by kernel_rfl, by kernel_rfl⟩
theorem Try.goes25 : Goes Try.prog 25 := ⟨_, Try.func25, by kernel_rfl, by kernel_rfl⟩
theorem Try.goes43 : Goes Try.prog 43 := ⟨_, Try.func43, by kernel_rfl, by kernel_rfl⟩
theorem Try.size3 : sizeB Try.prog 3 = some 1 := by kernel_rfl
theorem Try.zero3 : zeroB Try.prog 3 = some #[.int .i64 0] := by kernel_rfl


/-- A program. -/
structure Prg where
  insts : List Inst
  start : Int
  groups : Int
  names : List ByteArray
structure Prg.Ok (p : Prg) : Prop where
  start : -9223372036854775808 ≤ p.start ∧ p.start ≤ 9223372036854775807
  groups : -9223372036854775808 ≤ p.groups ∧ p.groups ≤ 9223372036854775807
  ilen : p.insts.length * 56 ≤ 140737488355328
  nlen : p.names.length * 16 ≤ 140737488355328
def RPrg : Rel Prg := fun X w vs d => d.Ok ∧ ∃ iv nv, vs = [iv, .int .i64 d.start, .int .i64 d.groups, nv] ∧ RSl 5 RInst X w iv d.insts ∧ RSl 1 RStr X w nv d.names
theorem RPrg.pers : RPrg.Pers := fun _ _ _ _ _ he ⟨h0, iv, nv, hv, h1, h2⟩ => ⟨h0, iv, nv, hv, h1.evo RInst.pers he, h2.evo RStr.pers he⟩
def HeadOk (p : Prg) : Prop := 1 ≤ (p.insts.length : Int) ∧ (p.insts.length : Int) ≤ 10000 ∧ 0 ≤ p.start ∧ p.start < (p.insts.length : Int) ∧ 0 ≤ p.groups ∧ p.groups ≤ 100 ∧ (p.names.length : Int) = p.groups
def SoundUp (p : Prg) (k : Nat) : Prop := ∀ i (h : i < p.insts.length), i < k → SoundI p.insts[i] p.insts.length p.groups
def SoundP (p : Prg) : Prop := HeadOk p ∧ SoundUp p p.insts.length
theorem not_head {p : Prg} (h : ¬ HeadOk p) : (false = true ↔ SoundP p) := ⟨fun h => (by cases h), fun h2 => absurd h2.1 h⟩
theorem SoundUp.succ {p : Prg} {k : Nat} (hk : k < p.insts.length) (h : SoundUp p k) (h1 : SoundI p.insts[k] p.insts.length p.groups) : SoundUp p (k + 1) := fun i hi hik => by
  by_cases e : i < k
  · exact h i hi e
  · obtain rfl : i = k := by omega
    exact h1

theorem rSound_ok {X : List Nat} {w : World} {vs : List Value} {p : Prg} (hp : RPrg X w vs p) :
    Calls Try.prog 7 #[.agg vs.toArray] w (Ret fun v w' => ∃ b, v = .bool b ∧ (b = true ↔ SoundP p) ∧ Evo [] w w') := by
  obtain ⟨hok, iv, nv, rfl, hiv, hnv⟩ := hp
  have hst := hok.start
  have hgr := hok.groups
  have hil := hok.ilen
  have hnl := hok.nlen
  obtain ⟨a3, c3, rfl, hl3, e3⟩ := hiv
  obtain ⟨a4, c4, rfl, hl4, e4⟩ := hnv
  refine calls_of_cw (N := 58) Try.func7 rfl rfl rfl ?_
  refine cw_seq ?_
  refine cw_region ?_
  refine wl_boxA rfl rfl fun b1 w2 hB3 hs4 hw5 => ?_
  have hG6 := Ge.new (Evo.refl [] w) hs4
  have hE7 := (Evo.refl [] w).then hw5
  refine wl_val rfl (ex_assign rfl) ?_
  refine wl_nil (nrm_then ?_)
  refine cw_seq ?_
  refine cw_region ?_
  refine wl_val rfl (ex_fieldAddr rfl Try.fld25_0) ?_
  refine wl_val rfl (ex_load1 rfl Try.agg22 (cell_nth hB3 rfl)) ?_
  refine wl_val rfl (ex_len_slice rfl Try.underlying22 rfl) ?_
  refine wl_val rfl (ex_assign rfl) ?_
  refine wl_nil (nrm_then ?_)
  refine cw_seq ?_
  refine cw_seq ?_
  refine cw_region ?_
  refine wl_val rfl (ex_move rfl) ?_
  refine wl_val rfl (ex_lss rfl rfl) ?_
  refine wl_val rfl (ex_move rfl) ?_
  refine wl_split (t := 10) rfl (fun hs10 => ?_) (fun hs10 => ?_)
  · skip
    refine wl_no rfl rfl rfl rfl rfl rfl ?_
    refine wl_no rfl rfl rfl rfl rfl rfl ?_
    refine wl_val rfl (ex_pick_t rfl rfl) ?_
    refine wl_val rfl (ex_move rfl) ?_
    refine wl_no rfl rfl rfl rfl rfl rfl ?_
    refine wl_no rfl rfl rfl rfl rfl rfl ?_
    refine wl_no rfl rfl rfl rfl rfl rfl ?_
    refine wl_val rfl (ex_pick_t rfl rfl) ?_
    refine wl_val rfl (ex_move rfl) ?_
    refine wl_no rfl rfl rfl rfl rfl rfl ?_
    refine wl_no rfl rfl rfl rfl rfl rfl ?_
    refine wl_no rfl rfl rfl rfl rfl rfl ?_
    refine wl_no rfl rfl rfl rfl rfl rfl ?_
    refine wl_val rfl (ex_pick_t rfl rfl) ?_
    refine wl_val rfl (ex_move rfl) ?_
    refine wl_no rfl rfl rfl rfl rfl rfl ?_
    refine wl_no rfl rfl rfl rfl rfl rfl ?_
    refine wl_no rfl rfl rfl rfl rfl rfl ?_
    refine wl_val rfl (ex_pick_t rfl rfl) ?_
    refine wl_val rfl (ex_move rfl) ?_
    refine wl_no rfl rfl rfl rfl rfl rfl ?_
    refine wl_no rfl rfl rfl rfl rfl rfl ?_
    refine wl_no rfl rfl rfl rfl rfl rfl ?_
    refine wl_val rfl (ex_pick_t rfl rfl) ?_
    refine wl_val rfl (ex_move rfl) ?_
    refine wl_no rfl rfl rfl rfl rfl rfl ?_
    refine wl_no rfl rfl rfl rfl rfl rfl ?_
    refine wl_no rfl rfl rfl rfl rfl rfl ?_
    refine wl_no rfl rfl rfl rfl rfl rfl ?_
    refine wl_no rfl rfl rfl rfl rfl rfl ?_
    refine wl_no rfl rfl rfl rfl rfl rfl ?_
    refine wl_val rfl (ex_pick_t rfl rfl) ?_
    refine wl_nil (nrm_then ?_)
    refine cw_true rfl ?_
    refine cw_seq ?_
    refine cw_region ?_
    refine wl_val rfl (ex_assign rfl) ?_
    refine wl_nil (nrm_then ?_)
    refine cw_ret (ret_then (body_ret1 rfl rfl ?_))
    exact ⟨_, rfl, not_head (by simp only [HeadOk]; omega), hE7⟩
  · skip
    refine wl_go rfl rfl rfl rfl ?_
    refine wl_val rfl (ex_move rfl) ?_
    refine wl_go rfl rfl rfl rfl ?_
    refine wl_val rfl (ex_gtr rfl rfl) ?_
    refine wl_val rfl (ex_pick_f rfl rfl) ?_
    refine wl_val rfl (ex_move rfl) ?_
    refine wl_split (t := 14) rfl (fun hs14 => ?_) (fun hs14 => ?_)
    · skip
      refine wl_no rfl rfl rfl rfl rfl rfl ?_
      refine wl_no rfl rfl rfl rfl rfl rfl ?_
      refine wl_no rfl rfl rfl rfl rfl rfl ?_
      refine wl_val rfl (ex_pick_t rfl rfl) ?_
      refine wl_val rfl (ex_move rfl) ?_
      refine wl_no rfl rfl rfl rfl rfl rfl ?_
      refine wl_no rfl rfl rfl rfl rfl rfl ?_
      refine wl_no rfl rfl rfl rfl rfl rfl ?_
      refine wl_no rfl rfl rfl rfl rfl rfl ?_
      refine wl_val rfl (ex_pick_t rfl rfl) ?_
      refine wl_val rfl (ex_move rfl) ?_
      refine wl_no rfl rfl rfl rfl rfl rfl ?_
      refine wl_no rfl rfl rfl rfl rfl rfl ?_
      refine wl_no rfl rfl rfl rfl rfl rfl ?_
      refine wl_val rfl (ex_pick_t rfl rfl) ?_
      refine wl_val rfl (ex_move rfl) ?_
      refine wl_no rfl rfl rfl rfl rfl rfl ?_
      refine wl_no rfl rfl rfl rfl rfl rfl ?_
      refine wl_no rfl rfl rfl rfl rfl rfl ?_
      refine wl_val rfl (ex_pick_t rfl rfl) ?_
      refine wl_val rfl (ex_move rfl) ?_
      refine wl_no rfl rfl rfl rfl rfl rfl ?_
      refine wl_no rfl rfl rfl rfl rfl rfl ?_
      refine wl_no rfl rfl rfl rfl rfl rfl ?_
      refine wl_no rfl rfl rfl rfl rfl rfl ?_
      refine wl_no rfl rfl rfl rfl rfl rfl ?_
      refine wl_no rfl rfl rfl rfl rfl rfl ?_
      refine wl_val rfl (ex_pick_t rfl rfl) ?_
      refine wl_nil (nrm_then ?_)
      refine cw_true rfl ?_
      refine cw_seq ?_
      refine cw_region ?_
      refine wl_val rfl (ex_assign rfl) ?_
      refine wl_nil (nrm_then ?_)
      refine cw_ret (ret_then (body_ret1 rfl rfl ?_))
      exact ⟨_, rfl, not_head (by simp only [HeadOk]; omega), hE7⟩
    · skip
      refine wl_go rfl rfl rfl rfl ?_
      refine wl_val rfl (ex_fieldAddr rfl Try.fld25_1) ?_
      refine wl_go rfl rfl rfl rfl ?_
      refine wl_val rfl (ex_load1 rfl Try.agg3 (cell_nth hB3 rfl)) ?_
      refine wl_go rfl rfl rfl rfl ?_
      refine wl_val rfl (ex_lss rfl rfl) ?_
      refine wl_val rfl (ex_pick_f rfl rfl) ?_
      refine wl_val rfl (ex_move rfl) ?_
      refine wl_split (t := 19) rfl (fun hs19 => ?_) (fun hs19 => ?_)
      · skip
        refine wl_no rfl rfl rfl rfl rfl rfl ?_
        refine wl_no rfl rfl rfl rfl rfl rfl ?_
        refine wl_no rfl rfl rfl rfl rfl rfl ?_
        refine wl_no rfl rfl rfl rfl rfl rfl ?_
        refine wl_val rfl (ex_pick_t rfl rfl) ?_
        refine wl_val rfl (ex_move rfl) ?_
        refine wl_no rfl rfl rfl rfl rfl rfl ?_
        refine wl_no rfl rfl rfl rfl rfl rfl ?_
        refine wl_no rfl rfl rfl rfl rfl rfl ?_
        refine wl_val rfl (ex_pick_t rfl rfl) ?_
        refine wl_val rfl (ex_move rfl) ?_
        refine wl_no rfl rfl rfl rfl rfl rfl ?_
        refine wl_no rfl rfl rfl rfl rfl rfl ?_
        refine wl_no rfl rfl rfl rfl rfl rfl ?_
        refine wl_val rfl (ex_pick_t rfl rfl) ?_
        refine wl_val rfl (ex_move rfl) ?_
        refine wl_no rfl rfl rfl rfl rfl rfl ?_
        refine wl_no rfl rfl rfl rfl rfl rfl ?_
        refine wl_no rfl rfl rfl rfl rfl rfl ?_
        refine wl_no rfl rfl rfl rfl rfl rfl ?_
        refine wl_no rfl rfl rfl rfl rfl rfl ?_
        refine wl_no rfl rfl rfl rfl rfl rfl ?_
        refine wl_val rfl (ex_pick_t rfl rfl) ?_
        refine wl_nil (nrm_then ?_)
        refine cw_true rfl ?_
        refine cw_seq ?_
        refine cw_region ?_
        refine wl_val rfl (ex_assign rfl) ?_
        refine wl_nil (nrm_then ?_)
        refine cw_ret (ret_then (body_ret1 rfl rfl ?_))
        exact ⟨_, rfl, not_head (by simp only [HeadOk]; omega), hE7⟩
      · skip
        refine wl_go rfl rfl rfl rfl ?_
        refine wl_val rfl (ex_fieldAddr rfl Try.fld25_1) ?_
        refine wl_go rfl rfl rfl rfl ?_
        refine wl_val rfl (ex_load1 rfl Try.agg3 (cell_nth hB3 rfl)) ?_
        refine wl_go rfl rfl rfl rfl ?_
        refine wl_val rfl (ex_move rfl) ?_
        refine wl_go rfl rfl rfl rfl ?_
        refine wl_val rfl (ex_geq rfl rfl) ?_
        refine wl_val rfl (ex_pick_f rfl rfl) ?_
        refine wl_val rfl (ex_move rfl) ?_
        refine wl_split (t := 25) rfl (fun hs25 => ?_) (fun hs25 => ?_)
        · skip
          refine wl_no rfl rfl rfl rfl rfl rfl ?_
          refine wl_no rfl rfl rfl rfl rfl rfl ?_
          refine wl_no rfl rfl rfl rfl rfl rfl ?_
          refine wl_val rfl (ex_pick_t rfl rfl) ?_
          refine wl_val rfl (ex_move rfl) ?_
          refine wl_no rfl rfl rfl rfl rfl rfl ?_
          refine wl_no rfl rfl rfl rfl rfl rfl ?_
          refine wl_no rfl rfl rfl rfl rfl rfl ?_
          refine wl_val rfl (ex_pick_t rfl rfl) ?_
          refine wl_val rfl (ex_move rfl) ?_
          refine wl_no rfl rfl rfl rfl rfl rfl ?_
          refine wl_no rfl rfl rfl rfl rfl rfl ?_
          refine wl_no rfl rfl rfl rfl rfl rfl ?_
          refine wl_no rfl rfl rfl rfl rfl rfl ?_
          refine wl_no rfl rfl rfl rfl rfl rfl ?_
          refine wl_no rfl rfl rfl rfl rfl rfl ?_
          refine wl_val rfl (ex_pick_t rfl rfl) ?_
          refine wl_nil (nrm_then ?_)
          refine cw_true rfl ?_
          refine cw_seq ?_
          refine cw_region ?_
          refine wl_val rfl (ex_assign rfl) ?_
          refine wl_nil (nrm_then ?_)
          refine cw_ret (ret_then (body_ret1 rfl rfl ?_))
          exact ⟨_, rfl, not_head (by simp only [HeadOk]; omega), hE7⟩
        · skip
          refine wl_go rfl rfl rfl rfl ?_
          refine wl_val rfl (ex_fieldAddr rfl Try.fld25_2) ?_
          refine wl_go rfl rfl rfl rfl ?_
          refine wl_val rfl (ex_load1 rfl Try.agg3 (cell_nth hB3 rfl)) ?_
          refine wl_go rfl rfl rfl rfl ?_
          refine wl_val rfl (ex_lss rfl rfl) ?_
          refine wl_val rfl (ex_pick_f rfl rfl) ?_
          refine wl_val rfl (ex_move rfl) ?_
          refine wl_split (t := 30) rfl (fun hs30 => ?_) (fun hs30 => ?_)
          · skip
            refine wl_no rfl rfl rfl rfl rfl rfl ?_
            refine wl_no rfl rfl rfl rfl rfl rfl ?_
            refine wl_no rfl rfl rfl rfl rfl rfl ?_
            refine wl_val rfl (ex_pick_t rfl rfl) ?_
            refine wl_val rfl (ex_move rfl) ?_
            refine wl_no rfl rfl rfl rfl rfl rfl ?_
            refine wl_no rfl rfl rfl rfl rfl rfl ?_
            refine wl_no rfl rfl rfl rfl rfl rfl ?_
            refine wl_no rfl rfl rfl rfl rfl rfl ?_
            refine wl_no rfl rfl rfl rfl rfl rfl ?_
            refine wl_no rfl rfl rfl rfl rfl rfl ?_
            refine wl_val rfl (ex_pick_t rfl rfl) ?_
            refine wl_nil (nrm_then ?_)
            refine cw_true rfl ?_
            refine cw_seq ?_
            refine cw_region ?_
            refine wl_val rfl (ex_assign rfl) ?_
            refine wl_nil (nrm_then ?_)
            refine cw_ret (ret_then (body_ret1 rfl rfl ?_))
            exact ⟨_, rfl, not_head (by simp only [HeadOk]; omega), hE7⟩
          · skip
            refine wl_go rfl rfl rfl rfl ?_
            refine wl_val rfl (ex_fieldAddr rfl Try.fld25_2) ?_
            refine wl_go rfl rfl rfl rfl ?_
            refine wl_val rfl (ex_load1 rfl Try.agg3 (cell_nth hB3 rfl)) ?_
            refine wl_go rfl rfl rfl rfl ?_
            refine wl_val rfl (ex_gtr rfl rfl) ?_
            refine wl_val rfl (ex_pick_f rfl rfl) ?_
            refine wl_val rfl (ex_move rfl) ?_
            refine wl_split (t := 35) rfl (fun hs35 => ?_) (fun hs35 => ?_)
            · skip
              refine wl_no rfl rfl rfl rfl rfl rfl ?_
              refine wl_no rfl rfl rfl rfl rfl rfl ?_
              refine wl_no rfl rfl rfl rfl rfl rfl ?_
              refine wl_no rfl rfl rfl rfl rfl rfl ?_
              refine wl_no rfl rfl rfl rfl rfl rfl ?_
              refine wl_no rfl rfl rfl rfl rfl rfl ?_
              refine wl_val rfl (ex_pick_t rfl rfl) ?_
              refine wl_nil (nrm_then ?_)
              refine cw_true rfl ?_
              refine cw_seq ?_
              refine cw_region ?_
              refine wl_val rfl (ex_assign rfl) ?_
              refine wl_nil (nrm_then ?_)
              refine cw_ret (ret_then (body_ret1 rfl rfl ?_))
              exact ⟨_, rfl, not_head (by simp only [HeadOk]; omega), hE7⟩
            · skip
              refine wl_go rfl rfl rfl rfl ?_
              refine wl_val rfl (ex_fieldAddr rfl Try.fld25_3) ?_
              refine wl_go rfl rfl rfl rfl ?_
              refine wl_val rfl (ex_load1 rfl Try.agg23 (cell_nth hB3 rfl)) ?_
              refine wl_go rfl rfl rfl rfl ?_
              refine wl_val rfl (ex_len_slice rfl Try.underlying23 rfl) ?_
              refine wl_go rfl rfl rfl rfl ?_
              refine wl_val rfl (ex_fieldAddr rfl Try.fld25_2) ?_
              refine wl_go rfl rfl rfl rfl ?_
              refine wl_val rfl (ex_load1 rfl Try.agg3 (cell_nth hB3 rfl)) ?_
              refine wl_go rfl rfl rfl rfl ?_
              refine wl_val rfl (ex_neq rfl rfl) ?_
              refine wl_val rfl (ex_pick_f rfl rfl) ?_
              refine wl_nil (nrm_then ?_)
              refine cw_if rfl (fun hc42 => ?_) (fun hc42 => ?_)
              · skip
                refine cw_seq ?_
                refine cw_region ?_
                refine wl_val rfl (ex_assign rfl) ?_
                refine wl_nil (nrm_then ?_)
                refine cw_ret (ret_then (body_ret1 rfl rfl ?_))
                exact ⟨_, rfl, not_head (by simp only [HeadOk]; omega), hE7⟩
              · skip
                refine cw_skip (nrm_then ?_)
                refine cw_seq ?_
                refine cw_seq ?_
                refine cw_region ?_
                refine wl_val rfl (ex_assign rfl) ?_
                refine wl_nil (nrm_then ?_)
                refine cw_block ?_
                refine cw_loop (α := Nat) (0) (fun k => [(4, .int .i64 (k : Nat))]) [(1, _), (3, _)] (fun k wr => Evo [] w2 wr ∧ (k ≤ p.insts.length ∧ SoundUp p k)) (fun k => p.insts.length - k) ⟨rfl, trivial⟩ ⟨rfl, rfl, trivial⟩ ⟨Evo.refl _ _, ⟨Nat.zero_le _, fun i _ h => by omega⟩⟩ ?_
                rintro k wr8 ⟨hV9, ⟨hk, hup⟩⟩
                show CW _ _ _ _ [(4, _), (1, _), (3, _)] _
                have hE10 := hE7.then hV9
                have hB11 := hV9.blk0 hB3
                refine cw_seq ?_
                refine cw_seq ?_
                refine cw_region ?_
                refine wl_val rfl (ex_move rfl) ?_
                refine wl_val rfl (ex_move rfl) ?_
                refine wl_val rfl (ex_lss rfl rfl) ?_
                refine wl_nil (nrm_then ?_)
                refine cw_if rfl (fun hc45 => ?_) (fun hc45 => ?_)
                · skip
                  refine cw_skip (nrm_then ?_)
                  refine cw_seq ?_
                  refine cw_block ?_
                  refine cw_seq ?_
                  refine cw_any (fun w0 w' => Evo [] w0 w') (by kernel_rfl) (fun w12 hw13 => ?_)
                  have hE14 := hE10.then hw13
                  have hE15 := hV9.then hw13
                  have hB16 := hw13.blk0 hB11
                  refine ae_take 0 rfl (by kernel_rfl) (by kernel_rfl) (by kernel_rfl) rfl (fun _ hS => ex_fieldAddr rfl Try.fld25_0) (Evo.refl [] w12) ?_
                  refine ae_take 1 rfl (by kernel_rfl) (by kernel_rfl) (by kernel_rfl) rfl (fun _ hS => ex_load1 rfl Try.agg22 (cell_nth (hS.blk0 hB16) rfl)) (Evo.refl [] w12) ?_
                  refine ae_take 2 rfl (by kernel_rfl) (by kernel_rfl) (by kernel_rfl) rfl (fun _ hS => ex_move rfl) (Evo.refl [] w12) ?_
                  have hk' : k < p.insts.length := by omega
                  obtain ⟨b1, o1, vs1, ha1, hb1, -, hc1, hr1⟩ := e3 k hk'
                  obtain ⟨hi1, rv1, rfl, hr2⟩ := hr1
                  refine ae_take 3 rfl (by kernel_rfl) (by kernel_rfl) (by kernel_rfl) rfl (fun _ hS => ex_indexAddr (n := k) (by rw [ha1]; rfl) rfl Try.elem22 hk') (Evo.refl [] w12) ?_
                  refine ae_take 4 rfl (by kernel_rfl) (by kernel_rfl) (by kernel_rfl) rfl (fun _ hS => ex_loadA rfl Try.agg29 Try.size29 (vs := [_, _, _, _, _]) rfl (hc1.evo (hE14.then hS) (by simp))) (Evo.refl [] w12) ?_
                  refine ae_take 5 rfl (by kernel_rfl) (by kernel_rfl) (by kernel_rfl) rfl (fun _ hS => ex_move rfl) (Evo.refl [] w12) ?_
                  refine ae_take 6 rfl (by kernel_rfl) (by kernel_rfl) (by kernel_rfl) rfl (fun _ hS => ex_fieldAddr rfl Try.fld25_2) (Evo.refl [] w12) ?_
                  refine ae_take 7 rfl (by kernel_rfl) (by kernel_rfl) (by kernel_rfl) rfl (fun _ hS => ex_load1 rfl Try.agg3 (cell_nth (hS.blk0 hB16) rfl)) (Evo.refl [] w12) ?_
                  refine ae_loud [8] (by kernel_rfl) rfl ⟨?_, trivial⟩
                  refine a_step rfl ?_
                  refine wl_call1 (vs := [_, _, _]) Try.goes25 rfl (rsound_ok (X := X) (c := p.insts[k]) ⟨hi1, rv1, rfl, hr2.evo RRange.pers ((hE14).any X)⟩ (by omega) (by omega)) rfl ?_
                  rintro _ w17 ⟨bi, rfl, hbi, hw18⟩
                  have hE19 := hE14.then hw18
                  have hE20 := hE15.then hw18
                  have hE21 := (Evo.refl [] w12).then hw18
                  have hB22 := hw18.blk0 hB16
                  refine wl_nil (ae_next (.inl hE21) ?_)
                  refine ae_take 9 rfl (by kernel_rfl) (by kernel_rfl) (by kernel_rfl) rfl (fun _ hS => ex_notb rfl) hE21 ?_
                  refine ae_done (by kernel_rfl) (nrm_then ?_)
                  refine cw_ifb rfl (fun hc57 => ?_) (fun hc57 => ?_)
                  · skip
                    refine cw_seq ?_
                    refine cw_region ?_
                    refine wl_val rfl (ex_assign rfl) ?_
                    refine wl_nil (nrm_then ?_)
                    refine cw_ret (ret_block (ret_then (ret_then (ret_block (ret_then (body_ret1 rfl rfl ?_))))))
                    exact ⟨_, rfl, ⟨fun h => (by cases h), fun h => by have := hbi.2 (h.2 k hk' hk'); rw [this] at hc57; cases hc57⟩, hE19⟩
                  · skip
                    refine cw_skip (nrm_block (nrm_then ?_))
                    refine cw_region ?_
                    refine wl_val rfl (ex_move rfl) ?_
                    refine wl_val rfl (ex_add_i64 rfl rfl (by omega) (by omega)) ?_
                    refine wl_val rfl (ex_assign rfl) ?_
                    refine wl_nil (nrm_then ?_)
                    refine ⟨k + 1, ?_, ⟨rfl, trivial⟩, ⟨rfl, rfl, trivial⟩, hE20, ?_⟩
                    · omega
                    · skip
                      exact ⟨by omega, hup.succ hk' (hbi.1 (by simpa using hc57))⟩
                · skip
                  refine cw_exit (ex_then (ex_then (ex_here (nrm_then ?_))))
                  refine cw_seq ?_
                  refine cw_region ?_
                  refine wl_val rfl (ex_assign rfl) ?_
                  refine wl_nil (nrm_then ?_)
                  refine cw_ret (body_ret1 rfl rfl ?_)
                  have hs : SoundUp p p.insts.length := by have := Nat.le_antisymm hk (by omega : p.insts.length ≤ k); rw [this] at hup; exact hup
                  exact ⟨_, rfl, ⟨fun _ => ⟨by simp only [HeadOk]; omega, hs⟩, fun _ => rfl⟩, hE10⟩

theorem sound1_ok {X : List Nat} {w : World} {vs : List Value} {c : Inst} {n g : Int} {bn bp : Nat} {s1 s2 s4 : Value} {U1 U2 : TypeId} (hc : RInst X w vs c) (hbn : w.heap[bn]? = some (.cells #[.int .i64 n] U1 (0, 0))) (hbp : w.heap[bp]? = some (.cells #[s1, s2, .int .i64 g, s4] U2 (0, 0))) (hn : 0 ≤ n ∧ n ≤ 10000) (hg : 0 ≤ g ∧ g ≤ 100) :
    Calls Try.prog 23 #[.agg vs.toArray, .pointer (some ⟨bn, 0, none⟩), .pointer (some ⟨bp, 0, none⟩)] w (Ret fun v w' => ∃ b, v = .bool b ∧ (b = true ↔ ¬ SoundI c n g) ∧ Evo [] w w') := by
  have hln : vs.length = 5 := by obtain ⟨_, _, rfl, _⟩ := hc; rfl
  refine calls_of_cw (N := 11) Try.func23 rfl rfl rfl ?_
  refine cw_seq ?_
  refine cw_region ?_
  refine wl_boxA rfl rfl fun b1 w2 hB3 hs4 hw5 => ?_
  have hA6 := Apart.new (Lt.blk hbn) hs4
  have hA7 := Apart.new (Lt.blk hbp) hs4
  have hG8 := Ge.new (Evo.refl [] w) hs4
  have hE9 := (Evo.refl [] w).then hw5
  have hB10 := hw5.blk0 hbn
  have hB11 := hw5.blk0 hbp
  refine wl_val rfl (ex_assign rfl) ?_
  refine wl_nil (nrm_then ?_)
  refine cw_seq ?_
  refine cw_region ?_
  refine wl_val rfl (ex_loadBlk rfl Try.agg29 Try.size29 hB3 (by simpa using hln)) ?_
  refine wl_val rfl (ex_load1 rfl Try.agg3 (cell_nth hB10 rfl)) ?_
  refine wl_val rfl (ex_fieldAddr rfl Try.fld25_2) ?_
  refine wl_val rfl (ex_load1 rfl Try.agg3 (cell_nth hB11 rfl)) ?_
  refine wl_call1 (vs := [_, _, _]) Try.goes24 rfl (sound_ok (X := X) (c := c) (RInst.pers _ _ _ _ _ ((hE9).any X) hc) hn hg) rfl ?_
  rintro _ w12 ⟨bi, rfl, hbi, hw13⟩
  have hE14 := hE9.then hw13
  have hB15 := hw13.blk0 hB10
  have hB16 := hw13.blk0 hB11
  have hB17 := hw13.blk0 hB3
  refine wl_val rfl (ex_notb rfl) ?_
  refine wl_val rfl (ex_assign rfl) ?_
  refine wl_nil (nrm_then ?_)
  refine cw_ret (body_ret1 rfl rfl ?_)
  exact ⟨_, rfl, by rw [← hbi]; cases bi <;> simp, hE14⟩

theorem indexFunc_ok {X : List Nat} {w : World} {v0 : Value} {ds : List Inst} {n g : Int} {bn bp : Nat} {s1 s2 s4 : Value} {U1 U2 : TypeId} (hs : RSl 5 RInst X w v0 ds) (hlen : ds.length ≤ 140737488355328) (hbn : w.heap[bn]? = some (.cells #[.int .i64 n] U1 (0, 0))) (hbp : w.heap[bp]? = some (.cells #[s1, s2, .int .i64 g, s4] U2 (0, 0))) (hn : 0 ≤ n ∧ n ≤ 10000) (hg : 0 ≤ g ∧ g ≤ 100) :
    Calls Try.prog 43 #[v0, .func (.func 23) #[] #[.pointer (some ⟨bn, 0, none⟩), .pointer (some ⟨bp, 0, none⟩)]] w (Ret fun v w' => ∃ z, v = .int .i64 z ∧ (0 ≤ z ↔ ¬ ∀ i (h : i < ds.length), SoundI ds[i] n g) ∧ Evo [] w w') := by
  obtain ⟨a3, c3, rfl, hl3, e3⟩ := hs
  refine calls_of_cw (N := 19) Try.func43 rfl rfl rfl ?_
  refine cw_seq ?_
  refine cw_region ?_
  refine wl_val rfl (ex_assign rfl) ?_
  refine wl_nil (nrm_then ?_)
  refine cw_seq ?_
  refine cw_seq ?_
  refine cw_region ?_
  refine wl_val rfl (ex_move rfl) ?_
  refine wl_val rfl (ex_len_slice rfl Try.underlying22 rfl) ?_
  refine wl_val rfl (ex_move rfl) ?_
  refine wl_nil (nrm_then ?_)
  refine cw_block ?_
  refine cw_loop (α := Nat) (0) (fun k => [(8, .int .i64 (k : Nat))]) [(0, _), (1, _), (7, _)] (fun k wr => Evo [] w wr ∧ (k ≤ ds.length ∧ ∀ i (h : i < ds.length), i < k → SoundI ds[i] n g)) (fun k => ds.length - k) ⟨rfl, trivial⟩ ⟨rfl, rfl, rfl, trivial⟩ ⟨Evo.refl _ _, ⟨Nat.zero_le _, fun i _ h => by omega⟩⟩ ?_
  rintro k wr1 ⟨hV2, ⟨hk, hup⟩⟩
  show CW _ _ _ _ [(8, _), (0, _), (1, _), (7, _)] _
  have hE3 := (Evo.refl [] w).then hV2
  have hB4 := hV2.blk0 hbn
  have hB5 := hV2.blk0 hbp
  refine cw_seq ?_
  refine cw_region ?_
  refine wl_val rfl (ex_lss rfl rfl) ?_
  refine wl_nil (nrm_then ?_)
  refine cw_seq ?_
  refine cw_if rfl (fun hc9 => ?_) (fun hc9 => ?_)
  · skip
    refine cw_skip (nrm_then ?_)
    refine cw_seq ?_
    refine cw_block ?_
    refine cw_seq ?_
    refine cw_region ?_
    refine wl_val rfl (ex_move rfl) ?_
    refine wl_val rfl (ex_assign rfl) ?_
    refine wl_nil (nrm_then ?_)
    refine cw_seq ?_
    refine cw_region ?_
    refine wl_val rfl (ex_move rfl) ?_
    refine wl_val rfl (ex_move rfl) ?_
    refine wl_val rfl (ex_move rfl) ?_
    have hk' : k < ds.length := by omega
    obtain ⟨b1, o1, vs1, ha1, hb1, -, hc1, hr1⟩ := e3 k hk'
    obtain ⟨hi1, rv1, rfl, hr2⟩ := hr1
    refine wl_val rfl (ex_indexAddr (n := k) (by rw [ha1]; rfl) rfl Try.elem22 hk') ?_
    refine wl_val rfl (ex_loadA rfl Try.agg29 Try.size29 (vs := [_, _, _, _, _]) rfl (hc1.evo hE3 (by simp))) ?_
    refine wl_callv1 (vs := [_]) Try.goes23 rfl rfl (sound1_ok (X := X) (c := ds[k]) ⟨hi1, rv1, rfl, hr2.evo RRange.pers ((hE3).any X)⟩ hB4 hB5 hn hg) rfl ?_
    rintro _ w6 ⟨bi, rfl, hbi, hw7⟩
    have hE8 := hE3.then hw7
    have hE9 := hV2.then hw7
    have hB10 := hw7.blk0 hB4
    have hB11 := hw7.blk0 hB5
    refine wl_nil (nrm_then ?_)
    refine cw_ifb rfl (fun hc16 => ?_) (fun hc16 => ?_)
    · skip
      refine cw_seq ?_
      refine cw_region ?_
      refine wl_val rfl (ex_move rfl) ?_
      refine wl_val rfl (ex_assign rfl) ?_
      refine wl_nil (nrm_then ?_)
      refine cw_ret (ret_block (ret_then (ret_then (ret_block (ret_then (body_ret1 rfl rfl ?_))))))
      exact ⟨_, rfl, ⟨fun _ h => hbi.1 hc16 (h k hk'), fun _ => by omega⟩, hE8⟩
    · skip
      refine cw_skip (nrm_block (nrm_then ?_))
      refine cw_region ?_
      refine wl_val rfl (ex_add_i64 rfl rfl (by omega) (by omega)) ?_
      refine wl_val rfl (ex_move rfl) ?_
      refine wl_nil (nrm_then ?_)
      refine ⟨k + 1, ?_, ⟨rfl, trivial⟩, ⟨rfl, rfl, rfl, trivial⟩, hE9, ?_⟩
      · omega
      · skip
        refine ⟨by omega, fun i hi hik => ?_⟩
        by_cases e : i < k
        · exact hup i hi e
        · obtain rfl : i = k := by omega
          exact Classical.not_not.1 (fun h => by have := hbi.2 h; rw [this] at hc16; cases hc16)
  · skip
    refine cw_exit (ex_then (ex_then (ex_here (nrm_then ?_))))
    refine cw_seq ?_
    refine cw_region ?_
    refine wl_val rfl (ex_assign rfl) ?_
    refine wl_nil (nrm_then ?_)
    refine cw_ret (body_ret1 rfl rfl ?_)
    exact ⟨_, rfl, ⟨fun h => by omega, fun h => absurd (fun i hi => hup i hi (by omega)) h⟩, hE3⟩

theorem containsFunc_ok {X : List Nat} {w : World} {v0 : Value} {ds : List Inst} {n g : Int} {bn bp : Nat} {s1 s2 s4 : Value} {U1 U2 : TypeId} (hs : RSl 5 RInst X w v0 ds) (hlen : ds.length ≤ 140737488355328) (hbn : w.heap[bn]? = some (.cells #[.int .i64 n] U1 (0, 0))) (hbp : w.heap[bp]? = some (.cells #[s1, s2, .int .i64 g, s4] U2 (0, 0))) (hn : 0 ≤ n ∧ n ≤ 10000) (hg : 0 ≤ g ∧ g ≤ 100) :
    Calls Try.prog 22 #[v0, .func (.func 23) #[] #[.pointer (some ⟨bn, 0, none⟩), .pointer (some ⟨bp, 0, none⟩)]] w (Ret fun v w' => ∃ b, v = .bool b ∧ (b = true ↔ ¬ ∀ i (h : i < ds.length), SoundI ds[i] n g) ∧ Evo [] w w') := by
  refine calls_of_cw (N := 9) Try.func22 rfl rfl rfl ?_
  refine cw_seq ?_
  refine cw_region ?_
  refine wl_val rfl (ex_assign rfl) ?_
  refine wl_nil (nrm_then ?_)
  refine cw_seq ?_
  refine cw_region ?_
  refine wl_val rfl (ex_move rfl) ?_
  refine wl_val rfl (ex_move rfl) ?_
  refine wl_call1 (vs := [_, _]) Try.goes43 rfl (indexFunc_ok hs hlen hbn hbp hn hg) rfl ?_
  rintro _ w1 ⟨z, rfl, hz, hw2⟩
  have hE3 := (Evo.refl [] w).then hw2
  refine wl_val rfl (ex_geq rfl rfl) ?_
  refine wl_val rfl (ex_assign rfl) ?_
  refine wl_nil (nrm_then ?_)
  refine cw_ret (body_ret1 rfl rfl ?_)
  exact ⟨_, rfl, by rw [decide_eq_true_eq]; exact hz, hE3⟩

theorem Sound_ok {X : List Nat} {w : World} {vs : List Value} {p : Prg} (hp : RPrg X w vs p) :
    Calls Try.prog 6 #[.agg vs.toArray] w (Ret fun v w' => ∃ b, v = .bool b ∧ (b = true ↔ SoundP p) ∧ Evo [] w w') := by
  obtain ⟨hok, iv, nv, rfl, hiv, hnv⟩ := hp
  have hst := hok.start
  have hgr := hok.groups
  have hil := hok.ilen
  have hnl := hok.nlen
  obtain ⟨a3, c3, rfl, hl3, e3⟩ := hiv
  obtain ⟨a4, c4, rfl, hl4, e4⟩ := hnv
  refine calls_of_cw (N := 45) Try.func6 rfl rfl rfl ?_
  refine cw_seq ?_
  refine cw_region ?_
  refine wl_boxA rfl rfl fun b1 w2 hB3 hs4 hw5 => ?_
  have hG6 := Ge.new (Evo.refl [] w) hs4
  have hE7 := (Evo.refl [] w).then hw5
  refine wl_val rfl (ex_assign rfl) ?_
  refine wl_nil (nrm_then ?_)
  refine cw_seq ?_
  refine cw_region ?_
  refine wl_val rfl (ex_fieldAddr rfl Try.fld25_0) ?_
  refine wl_val rfl (ex_load1 rfl Try.agg22 (cell_nth hB3 rfl)) ?_
  refine wl_val rfl (ex_len_slice rfl Try.underlying22 rfl) ?_
  refine wl_alloc rfl Try.zero3 fun b8 w9 hB10 hs11 hw12 => ?_
  have hA13 := Apart.new (Lt.blk hB3) hs11
  have hG14 := Ge.new hE7 hs11
  have hE15 := hE7.then hw12
  have hB16 := hw12.blk0 hB3
  refine wl_store1 rfl rfl (by first | rfl | assumption) Try.size3 hB10 rfl fun w17 hB18 hw19 => ?_
  have hE20 := hE15.step hw19 hG14.mem1
  have hB21 := hw19.blk hB16 hA13.nmem1
  refine wl_nil (nrm_then ?_)
  refine cw_seq ?_
  refine cw_seq ?_
  refine cw_region ?_
  refine wl_val rfl (ex_load1 rfl Try.agg3 (cell_nth hB18 rfl)) ?_
  refine wl_val rfl (ex_lss rfl rfl) ?_
  refine wl_val rfl (ex_move rfl) ?_
  refine wl_split (t := 9) rfl (fun hs9 => ?_) (fun hs9 => ?_)
  · skip
    refine wl_no rfl rfl rfl rfl rfl rfl ?_
    refine wl_no rfl rfl rfl rfl rfl rfl ?_
    refine wl_val rfl (ex_pick_t rfl rfl) ?_
    refine wl_val rfl (ex_move rfl) ?_
    refine wl_no rfl rfl rfl rfl rfl rfl ?_
    refine wl_no rfl rfl rfl rfl rfl rfl ?_
    refine wl_no rfl rfl rfl rfl rfl rfl ?_
    refine wl_val rfl (ex_pick_t rfl rfl) ?_
    refine wl_val rfl (ex_move rfl) ?_
    refine wl_no rfl rfl rfl rfl rfl rfl ?_
    refine wl_no rfl rfl rfl rfl rfl rfl ?_
    refine wl_no rfl rfl rfl rfl rfl rfl ?_
    refine wl_no rfl rfl rfl rfl rfl rfl ?_
    refine wl_val rfl (ex_pick_t rfl rfl) ?_
    refine wl_nil (nrm_then ?_)
    refine cw_true rfl ?_
    refine cw_seq ?_
    refine cw_region ?_
    refine wl_val rfl (ex_assign rfl) ?_
    refine wl_nil (nrm_then ?_)
    refine cw_ret (ret_then (body_ret1 rfl rfl ?_))
    exact ⟨_, rfl, not_head (by simp only [HeadOk]; omega), hE20⟩
  · skip
    refine wl_go rfl rfl rfl rfl ?_
    refine wl_val rfl (ex_load1 rfl Try.agg3 (cell_nth hB18 rfl)) ?_
    refine wl_go rfl rfl rfl rfl ?_
    refine wl_val rfl (ex_gtr rfl rfl) ?_
    refine wl_val rfl (ex_pick_f rfl rfl) ?_
    refine wl_val rfl (ex_move rfl) ?_
    refine wl_split (t := 13) rfl (fun hs13 => ?_) (fun hs13 => ?_)
    · skip
      refine wl_no rfl rfl rfl rfl rfl rfl ?_
      refine wl_no rfl rfl rfl rfl rfl rfl ?_
      refine wl_no rfl rfl rfl rfl rfl rfl ?_
      refine wl_val rfl (ex_pick_t rfl rfl) ?_
      refine wl_val rfl (ex_move rfl) ?_
      refine wl_no rfl rfl rfl rfl rfl rfl ?_
      refine wl_no rfl rfl rfl rfl rfl rfl ?_
      refine wl_no rfl rfl rfl rfl rfl rfl ?_
      refine wl_no rfl rfl rfl rfl rfl rfl ?_
      refine wl_val rfl (ex_pick_t rfl rfl) ?_
      refine wl_nil (nrm_then ?_)
      refine cw_true rfl ?_
      refine cw_seq ?_
      refine cw_region ?_
      refine wl_val rfl (ex_assign rfl) ?_
      refine wl_nil (nrm_then ?_)
      refine cw_ret (ret_then (body_ret1 rfl rfl ?_))
      exact ⟨_, rfl, not_head (by simp only [HeadOk]; omega), hE20⟩
    · skip
      refine wl_go rfl rfl rfl rfl ?_
      refine wl_val rfl (ex_fieldAddr rfl Try.fld25_1) ?_
      refine wl_go rfl rfl rfl rfl ?_
      refine wl_val rfl (ex_load1 rfl Try.agg3 (cell_nth hB21 rfl)) ?_
      refine wl_go rfl rfl rfl rfl ?_
      refine wl_val rfl (ex_lss rfl rfl) ?_
      refine wl_val rfl (ex_pick_f rfl rfl) ?_
      refine wl_val rfl (ex_move rfl) ?_
      refine wl_split (t := 18) rfl (fun hs18 => ?_) (fun hs18 => ?_)
      · skip
        refine wl_no rfl rfl rfl rfl rfl rfl ?_
        refine wl_no rfl rfl rfl rfl rfl rfl ?_
        refine wl_no rfl rfl rfl rfl rfl rfl ?_
        refine wl_no rfl rfl rfl rfl rfl rfl ?_
        refine wl_val rfl (ex_pick_t rfl rfl) ?_
        refine wl_nil (nrm_then ?_)
        refine cw_true rfl ?_
        refine cw_seq ?_
        refine cw_region ?_
        refine wl_val rfl (ex_assign rfl) ?_
        refine wl_nil (nrm_then ?_)
        refine cw_ret (ret_then (body_ret1 rfl rfl ?_))
        exact ⟨_, rfl, not_head (by simp only [HeadOk]; omega), hE20⟩
      · skip
        refine wl_go rfl rfl rfl rfl ?_
        refine wl_val rfl (ex_fieldAddr rfl Try.fld25_1) ?_
        refine wl_go rfl rfl rfl rfl ?_
        refine wl_val rfl (ex_load1 rfl Try.agg3 (cell_nth hB21 rfl)) ?_
        refine wl_go rfl rfl rfl rfl ?_
        refine wl_val rfl (ex_load1 rfl Try.agg3 (cell_nth hB18 rfl)) ?_
        refine wl_go rfl rfl rfl rfl ?_
        refine wl_val rfl (ex_geq rfl rfl) ?_
        refine wl_val rfl (ex_pick_f rfl rfl) ?_
        refine wl_nil (nrm_then ?_)
        refine cw_if rfl (fun hc23 => ?_) (fun hc23 => ?_)
        · skip
          refine cw_seq ?_
          refine cw_region ?_
          refine wl_val rfl (ex_assign rfl) ?_
          refine wl_nil (nrm_then ?_)
          refine cw_ret (ret_then (body_ret1 rfl rfl ?_))
          exact ⟨_, rfl, not_head (by simp only [HeadOk]; omega), hE20⟩
        · skip
          refine cw_skip (nrm_then ?_)
          refine cw_seq ?_
          refine cw_seq ?_
          refine cw_region ?_
          refine wl_val rfl (ex_fieldAddr rfl Try.fld25_2) ?_
          refine wl_val rfl (ex_load1 rfl Try.agg3 (cell_nth hB21 rfl)) ?_
          refine wl_val rfl (ex_lss rfl rfl) ?_
          refine wl_val rfl (ex_move rfl) ?_
          refine wl_split (t := 27) rfl (fun hs27 => ?_) (fun hs27 => ?_)
          · skip
            refine wl_no rfl rfl rfl rfl rfl rfl ?_
            refine wl_no rfl rfl rfl rfl rfl rfl ?_
            refine wl_no rfl rfl rfl rfl rfl rfl ?_
            refine wl_val rfl (ex_pick_t rfl rfl) ?_
            refine wl_val rfl (ex_move rfl) ?_
            refine wl_no rfl rfl rfl rfl rfl rfl ?_
            refine wl_no rfl rfl rfl rfl rfl rfl ?_
            refine wl_no rfl rfl rfl rfl rfl rfl ?_
            refine wl_no rfl rfl rfl rfl rfl rfl ?_
            refine wl_no rfl rfl rfl rfl rfl rfl ?_
            refine wl_no rfl rfl rfl rfl rfl rfl ?_
            refine wl_val rfl (ex_pick_t rfl rfl) ?_
            refine wl_nil (nrm_then ?_)
            refine cw_true rfl ?_
            refine cw_seq ?_
            refine cw_region ?_
            refine wl_val rfl (ex_assign rfl) ?_
            refine wl_nil (nrm_then ?_)
            refine cw_ret (ret_then (body_ret1 rfl rfl ?_))
            exact ⟨_, rfl, not_head (by simp only [HeadOk]; omega), hE20⟩
          · skip
            refine wl_go rfl rfl rfl rfl ?_
            refine wl_val rfl (ex_fieldAddr rfl Try.fld25_2) ?_
            refine wl_go rfl rfl rfl rfl ?_
            refine wl_val rfl (ex_load1 rfl Try.agg3 (cell_nth hB21 rfl)) ?_
            refine wl_go rfl rfl rfl rfl ?_
            refine wl_val rfl (ex_gtr rfl rfl) ?_
            refine wl_val rfl (ex_pick_f rfl rfl) ?_
            refine wl_val rfl (ex_move rfl) ?_
            refine wl_split (t := 32) rfl (fun hs32 => ?_) (fun hs32 => ?_)
            · skip
              refine wl_no rfl rfl rfl rfl rfl rfl ?_
              refine wl_no rfl rfl rfl rfl rfl rfl ?_
              refine wl_no rfl rfl rfl rfl rfl rfl ?_
              refine wl_no rfl rfl rfl rfl rfl rfl ?_
              refine wl_no rfl rfl rfl rfl rfl rfl ?_
              refine wl_no rfl rfl rfl rfl rfl rfl ?_
              refine wl_val rfl (ex_pick_t rfl rfl) ?_
              refine wl_nil (nrm_then ?_)
              refine cw_true rfl ?_
              refine cw_seq ?_
              refine cw_region ?_
              refine wl_val rfl (ex_assign rfl) ?_
              refine wl_nil (nrm_then ?_)
              refine cw_ret (ret_then (body_ret1 rfl rfl ?_))
              exact ⟨_, rfl, not_head (by simp only [HeadOk]; omega), hE20⟩
            · skip
              refine wl_go rfl rfl rfl rfl ?_
              refine wl_val rfl (ex_fieldAddr rfl Try.fld25_3) ?_
              refine wl_go rfl rfl rfl rfl ?_
              refine wl_val rfl (ex_load1 rfl Try.agg23 (cell_nth hB21 rfl)) ?_
              refine wl_go rfl rfl rfl rfl ?_
              refine wl_val rfl (ex_len_slice rfl Try.underlying23 rfl) ?_
              refine wl_go rfl rfl rfl rfl ?_
              refine wl_val rfl (ex_fieldAddr rfl Try.fld25_2) ?_
              refine wl_go rfl rfl rfl rfl ?_
              refine wl_val rfl (ex_load1 rfl Try.agg3 (cell_nth hB21 rfl)) ?_
              refine wl_go rfl rfl rfl rfl ?_
              refine wl_val rfl (ex_neq rfl rfl) ?_
              refine wl_val rfl (ex_pick_f rfl rfl) ?_
              refine wl_nil (nrm_then ?_)
              refine cw_if rfl (fun hc39 => ?_) (fun hc39 => ?_)
              · skip
                refine cw_seq ?_
                refine cw_region ?_
                refine wl_val rfl (ex_assign rfl) ?_
                refine wl_nil (nrm_then ?_)
                refine cw_ret (ret_then (body_ret1 rfl rfl ?_))
                exact ⟨_, rfl, not_head (by simp only [HeadOk]; omega), hE20⟩
              · skip
                refine cw_skip (nrm_then ?_)
                refine cw_seq ?_
                refine cw_region ?_
                refine wl_val rfl (ex_fieldAddr rfl Try.fld25_0) ?_
                refine wl_val rfl (ex_load1 rfl Try.agg22 (cell_nth hB21 rfl)) ?_
                refine wl_val rfl (ex_makeFunc (vs := [_, _]) rfl) ?_
                refine wl_call1 (vs := [_, _]) Try.goes22 rfl (containsFunc_ok (X := X) (ds := p.insts) (RSl.evo RInst.pers ((hE20).any X) ⟨a3, c3, rfl, hl3, e3⟩) (by omega) hB18 hB21 (by omega) (by omega)) rfl ?_
                rintro _ w22 ⟨bi, rfl, hbi, hw23⟩
                have hE24 := hE20.then hw23
                have hB25 := hw23.blk0 hB21
                have hB26 := hw23.blk0 hB18
                refine wl_val rfl (ex_notb rfl) ?_
                refine wl_val rfl (ex_assign rfl) ?_
                refine wl_nil (nrm_then ?_)
                refine cw_ret (body_ret1 rfl rfl ?_)
                have hh : HeadOk p := by simp only [HeadOk]; omega
                refine ⟨_, rfl, ?_, hE24⟩
                cases bi
                · simp only [Bool.not_false, true_iff]; exact ⟨hh, fun i hi _ => Classical.not_not.1 (fun h => by have := hbi.2 (fun h2 => h (h2 i hi)); cases this)⟩
                · simp only [Bool.not_true, Bool.false_eq_true, false_iff]; exact fun h => hbi.1 rfl (fun i hi => h.2 i hi hi)

end Go.Proofs.Ytopjnoblhleimaa
