import Derived.Test.YtclmkppiolfgbaaDoorKo
namespace Go.Proofs.YtclmkppiolfgbaaDoor
open Go.Proofs
open Go.W
attribute [local irreducible] Decidable.decide
set_option linter.unusedSimpArgs false
set_option linter.unusedVariables false
theorem Tryd.goes29 : Goes Tryd.prog 29 := ⟨_, Tryd.func29, by kernel_rfl, by kernel_rfl⟩


theorem memo1 {w : World} {ob ob1 : Option Nat} (h : ob1 = ob ∨ Ge w ob1) : ∀ y, y ∈ ob1.toList → y ∈ ob.toList ∨ w.heap.size ≤ y := fun y hy => by
  rcases h with h | h
  · subst h; exact .inl hy
  · exact h.mem y hy
/-- The same samples, but for NaN's bits; of stale ones V counts for nothing where loose. -/
structure Alike (a b : List Smp) (lo : Bool) : Prop where
  len : a.length = b.length
  all : ∀ k (h : k < a.length) (h' : k < b.length), a[k].t = b[k].t ∧ a[k].st = b[k].st ∧ (a[k].v = b[k].v ∨ (nanB a[k].v = true ∧ nanB b[k].v = true) ∨ (lo = true ∧ a[k].st = true))
theorem Alike.refl (a : List Smp) (lo : Bool) : Alike a a lo := ⟨rfl, fun _ _ _ => ⟨rfl, rfl, .inl rfl⟩⟩

theorem rising_ok {X : List Nat} {w : World} {v0 : Value} {l : List Smp} (hs : RSl 3 RSmp X w v0 l) (hl : l.length ≤ 140737488355328) :
    Calls Tryd.prog 18 #[v0] w (Ret fun r w' => (∃ b : Bool, r = .bool b ∧ (b = true ↔ Rises l)) ∧ Evo [] w w') := by
  have hs0 := hs
  obtain ⟨a0, c0, rfl, hlc, _⟩ := hs
  refine calls_of_cw (N := 22) Tryd.func18 rfl rfl rfl ?_
  refine cw_seq ?_
  refine cw_region ?_
  refine wl_val rfl (ex_assign rfl) ?_
  refine wl_nil (nrm_then ?_)
  refine cw_seq ?_
  refine cw_seq ?_
  refine cw_region ?_
  refine wl_val rfl (ex_assign rfl) ?_
  refine wl_nil (nrm_then ?_)
  refine cw_block ?_
  refine cw_loop (α := Nat) (1) (fun k => [(3, .int .i64 (k : Nat))]) [(0, _)] (fun k wr => Evo [] w wr ∧ (1 ≤ k ∧ (k ≤ l.length ∨ k = 1) ∧ RisesTo l k)) (fun k => l.length - k) ⟨rfl, trivial⟩ ⟨rfl, trivial⟩ ⟨Evo.refl _ _, ⟨Nat.le_refl _, .inr rfl, fun i _ h => by omega⟩⟩ ?_
  rintro k wr1 ⟨hV2, ⟨hk1, hk, hrs⟩⟩
  show CW _ _ _ _ [(3, _), (0, _)] _
  have hE3 := (Evo.refl [] w).then hV2
  refine cw_seq ?_
  refine cw_seq ?_
  refine cw_region ?_
  refine wl_val rfl (ex_move rfl) ?_
  refine wl_val rfl (ex_move rfl) ?_
  refine wl_val rfl (ex_len_slice rfl Tryd.underlying22 rfl) ?_
  refine wl_val rfl (ex_lss rfl rfl) ?_
  refine wl_nil (nrm_then ?_)
  refine cw_if rfl (fun hc7 => ?_) (fun hc7 => ?_)
  · skip
    have hk' : k < l.length := by omega
    refine cw_skip (nrm_then ?_)
    refine cw_seq ?_
    refine cw_block ?_
    refine cw_seq ?_
    obtain ⟨_, b1, o1, rfl, -, hc1⟩ := smp_at hs0 hk'
    obtain ⟨_, b2, o2, ha2, -, hc2⟩ := smp_at hs0 (k := k - 1) (by omega)
    cases ha2
    refine cw_quiet (by kernel_rfl) (by kernel_rfl) ?_
    refine ql_val rfl (fun _ hq5 => ex_move rfl) ?_
    refine ql_val rfl (fun _ hq5 => ex_move rfl) ?_
    refine ql_val rfl (fun _ hq5 => ex_indexAddr (n := k) rfl rfl Tryd.elem22 (by omega)) ?_
    refine ql_val rfl (fun _ hq5 => ex_fieldAddr rfl Tryd.fld41_0) ?_
    refine ql_val rfl (fun _ hq5 => ex_load1 rfl Tryd.agg2 ((hc1.evo (hE3.then hq5) (by simp)) 0 _ rfl)) ?_
    refine ql_val rfl (fun _ hq5 => ex_move rfl) ?_
    refine ql_val rfl (fun _ hq5 => ex_move rfl) ?_
    refine ql_val rfl (fun _ hq5 => ex_sub_i64 rfl rfl (by omega) (by omega)) ?_
    refine ql_val rfl (fun _ hq5 => ex_indexAddrZ (n := k - 1) rfl rfl (by omega) Tryd.elem22 (by omega)) ?_
    refine ql_val rfl (fun _ hq5 => ex_fieldAddr rfl Tryd.fld41_0) ?_
    refine ql_val rfl (fun _ hq5 => ex_load1 rfl Tryd.agg2 ((hc2.evo (hE3.then hq5) (by simp)) 0 _ rfl)) ?_
    refine ql_val rfl (fun _ hq5 => ex_leq rfl rfl) ?_
    refine ql_nil (fun wq4 hq5 => nrm_then ?_)
    have hE6 := hE3.then hq5
    have hE7 := hV2.then hq5
    refine cw_if rfl (fun hc21 => ?_) (fun hc21 => ?_)
    · skip
      refine cw_seq ?_
      refine cw_region ?_
      refine wl_val rfl (ex_assign rfl) ?_
      refine wl_nil (nrm_then ?_)
      refine cw_ret (ret_block (ret_then (ret_then (ret_block (ret_then (body_ret1 rfl rfl ?_))))))
      have hnr : ¬ Rises l := fun h => by have := h (k - 1) (by omega); simp only [Nat.sub_add_cancel hk1] at this; omega
      exact ⟨⟨false, rfl, ⟨fun h => (by cases h), fun h => absurd h hnr⟩⟩, hE6⟩
    · skip
      refine cw_skip (nrm_block (nrm_then ?_))
      refine cw_region ?_
      refine wl_val rfl (ex_move rfl) ?_
      refine wl_val rfl (ex_add_i64 rfl rfl (by omega) (by omega)) ?_
      refine wl_val rfl (ex_assign rfl) ?_
      refine wl_nil (nrm_same ?_)
      refine ⟨k + 1, ?_, ⟨rfl, trivial⟩, ⟨rfl, trivial⟩, hE7, ?_⟩
      · omega
      · skip
        exact ⟨by omega, by omega, hrs.succ hk' (by omega) (by omega)⟩
  · skip
    refine cw_exit (ex_then (ex_then (ex_here (nrm_then ?_))))
    refine cw_seq ?_
    refine cw_region ?_
    refine wl_val rfl (ex_assign rfl) ?_
    refine wl_nil (nrm_then ?_)
    refine cw_ret (body_ret1 rfl rfl ?_)
    exact ⟨⟨true, rfl, ⟨fun _ => hrs.all (by omega), fun _ => rfl⟩⟩, hE3⟩

theorem alike_ok {X Y : List Nat} {w : World} {va vb : Value} {la lb : List Smp} {lo : Bool} (ha : RSl 3 RSmp X w va la) (hb : RSl 3 RSmp Y w vb lb) (hal : Alike la lb lo) (hl : la.length ≤ 140737488355328) :
    Calls Tryd.prog 20 #[va, vb, .bool lo] w (Ret fun r w' => r = .bool true ∧ Evo [] w w') := by
  have ha0 := ha
  have hb0 := hb
  have hoa := rsl_ok ha
  have hob := rsl_ok hb
  have hln := hal.len
  obtain ⟨a0, c0, rfl, hlc, _⟩ := ha
  obtain ⟨a1, c1, rfl, hlc1, _⟩ := hb
  refine calls_of_cw (N := 82) Tryd.func20 rfl rfl rfl ?_
  refine cw_seq ?_
  refine cw_region ?_
  refine wl_val rfl (ex_assign rfl) ?_
  refine wl_nil (nrm_then ?_)
  refine cw_seq ?_
  refine cw_seq ?_
  refine cw_region ?_
  refine wl_val rfl (ex_move rfl) ?_
  refine wl_val rfl (ex_len_slice rfl Tryd.underlying22 rfl) ?_
  refine wl_val rfl (ex_move rfl) ?_
  refine wl_val rfl (ex_len_slice rfl Tryd.underlying22 rfl) ?_
  refine wl_val rfl (ex_neq rfl rfl) ?_
  refine wl_nil (nrm_then ?_)
  refine cw_if rfl (fun hc14 => ?_) (fun hc14 => ?_)
  · skip
    exact absurd hln (by omega)
  · skip
    refine cw_skip (nrm_then ?_)
    refine cw_seq ?_
    refine cw_seq ?_
    refine cw_region ?_
    refine wl_val rfl (ex_assign rfl) ?_
    refine wl_nil (nrm_then ?_)
    refine cw_block ?_
    refine cw_loop (α := Nat) (0) (fun k => [(7, .int .i64 (k : Nat))]) [(0, _), (1, _), (2, _)] (fun k wr => Evo [] w wr ∧ (k ≤ la.length)) (fun k => la.length - k) ⟨rfl, trivial⟩ ⟨rfl, rfl, rfl, trivial⟩ ⟨Evo.refl _ _, Nat.zero_le _⟩ ?_
    rintro k wr1 ⟨hV2, hk⟩
    show CW _ _ _ _ [(7, _), (0, _), (1, _), (2, _)] _
    have hE3 := (Evo.refl [] w).then hV2
    refine cw_seq ?_
    refine cw_seq ?_
    refine cw_region ?_
    refine wl_val rfl (ex_move rfl) ?_
    refine wl_val rfl (ex_move rfl) ?_
    refine wl_val rfl (ex_len_slice rfl Tryd.underlying22 rfl) ?_
    refine wl_val rfl (ex_lss rfl rfl) ?_
    refine wl_nil (nrm_then ?_)
    refine cw_if rfl (fun hc18 => ?_) (fun hc18 => ?_)
    · skip
      have hk' : k < la.length := by omega
      have hk2 : k < lb.length := by omega
      obtain ⟨hat, hast, hav⟩ := hal.all k hk' hk2
      obtain ⟨_, b1, o1, rfl, -, hc1⟩ := smp_at ha0 hk'
      obtain ⟨_, b2, o2, rfl, -, hc2⟩ := smp_at hb0 hk2
      refine cw_skip (nrm_then ?_)
      refine cw_seq ?_
      refine cw_block ?_
      refine cw_seq ?_
      refine cw_quiet (by kernel_rfl) (by kernel_rfl) ?_
      refine ql_val rfl (fun _ hq5 => ex_move rfl) ?_
      refine ql_val rfl (fun _ hq5 => ex_move rfl) ?_
      refine ql_val rfl (fun _ hq5 => ex_indexAddr (n := k) rfl rfl Tryd.elem22 (by omega)) ?_
      refine ql_val rfl (fun _ hq5 => ex_fieldAddr rfl Tryd.fld41_1) ?_
      refine ql_val rfl (fun _ hq5 => ex_load1 rfl Tryd.agg39 ((hc1.evo (hE3.then hq5) (by simp)) 1 _ rfl)) ?_
      refine ql_val rfl (fun _ hq5 => ex_move rfl) ?_
      refine ql_val rfl (fun _ hq5 => ex_move rfl) ?_
      refine ql_val rfl (fun _ hq5 => ex_indexAddr (n := k) rfl rfl Tryd.elem22 (by omega)) ?_
      refine ql_val rfl (fun _ hq5 => ex_fieldAddr rfl Tryd.fld41_1) ?_
      refine ql_val rfl (fun _ hq5 => ex_load1 rfl Tryd.agg39 ((hc2.evo (hE3.then hq5) (by simp)) 1 _ rfl)) ?_
      refine ql_val rfl (fun _ hq5 => ex_assign rfl) ?_
      refine ql_val rfl (fun _ hq5 => ex_assign rfl) ?_
      refine ql_nil (fun wq4 hq5 => nrm_then ?_)
      have hE6 := hE3.then hq5
      have hE7 := hV2.then hq5
      refine cw_seq ?_
      refine cw_seq ?_
      refine cw_quiet (by kernel_rfl) (by kernel_rfl) ?_
      refine ql_val rfl (fun _ hq9 => ex_move rfl) ?_
      refine ql_val rfl (fun _ hq9 => ex_move rfl) ?_
      refine ql_val rfl (fun _ hq9 => ex_indexAddr (n := k) rfl rfl Tryd.elem22 (by omega)) ?_
      refine ql_val rfl (fun _ hq9 => ex_fieldAddr rfl Tryd.fld41_0) ?_
      refine ql_val rfl (fun _ hq9 => ex_load1 rfl Tryd.agg2 ((hc1.evo (hE6.then hq9) (by simp)) 0 _ rfl)) ?_
      refine ql_val rfl (fun _ hq9 => ex_move rfl) ?_
      refine ql_val rfl (fun _ hq9 => ex_move rfl) ?_
      refine ql_val rfl (fun _ hq9 => ex_indexAddr (n := k) rfl rfl Tryd.elem22 (by omega)) ?_
      refine ql_val rfl (fun _ hq9 => ex_fieldAddr rfl Tryd.fld41_0) ?_
      refine ql_val rfl (fun _ hq9 => ex_load1 rfl Tryd.agg2 ((hc2.evo (hE6.then hq9) (by simp)) 0 _ rfl)) ?_
      refine ql_val rfl (fun _ hq9 => ex_neq rfl rfl) ?_
      refine ql_val rfl (fun _ hq9 => ex_move rfl) ?_
      refine ql_split (t := 42) rfl (fun hs42 => ?_) (fun hs42 => ?_)
      · skip
        exact absurd hat hs42
      · skip
        refine ql_go rfl rfl rfl rfl ?_
        refine ql_val rfl (fun _ hq9 => ex_move rfl) ?_
        refine ql_go rfl rfl rfl rfl ?_
        refine ql_val rfl (fun _ hq9 => ex_move rfl) ?_
        refine ql_go rfl rfl rfl rfl ?_
        refine ql_val rfl (fun _ hq9 => ex_indexAddr (n := k) rfl rfl Tryd.elem22 (by omega)) ?_
        refine ql_go rfl rfl rfl rfl ?_
        refine ql_val rfl (fun _ hq9 => ex_fieldAddr rfl Tryd.fld41_2) ?_
        refine ql_go rfl rfl rfl rfl ?_
        refine ql_val rfl (fun _ hq9 => ex_load1 rfl Tryd.agg4 ((hc1.evo (hE6.then hq9) (by simp)) 2 _ rfl)) ?_
        refine ql_go rfl rfl rfl rfl ?_
        refine ql_val rfl (fun _ hq9 => ex_move rfl) ?_
        refine ql_go rfl rfl rfl rfl ?_
        refine ql_val rfl (fun _ hq9 => ex_move rfl) ?_
        refine ql_go rfl rfl rfl rfl ?_
        refine ql_val rfl (fun _ hq9 => ex_indexAddr (n := k) rfl rfl Tryd.elem22 (by omega)) ?_
        refine ql_go rfl rfl rfl rfl ?_
        refine ql_val rfl (fun _ hq9 => ex_fieldAddr rfl Tryd.fld41_2) ?_
        refine ql_go rfl rfl rfl rfl ?_
        refine ql_val rfl (fun _ hq9 => ex_load1 rfl Tryd.agg4 ((hc2.evo (hE6.then hq9) (by simp)) 2 _ rfl)) ?_
        refine ql_go rfl rfl rfl rfl ?_
        refine ql_val rfl (fun _ hq9 => ex_neqB rfl rfl Tryd.underlying4) ?_
        refine ql_val rfl (fun _ hq9 => ex_pick_f rfl rfl) ?_
        refine ql_nil (fun wq8 hq9 => nrm_then ?_)
        have hE10 := hE6.then hq9
        have hE11 := hE7.then hq9
        refine cw_ifb rfl (fun hc54 => ?_) (fun hc54 => ?_)
        · skip
          simp [hast] at hc54
        · skip
          refine cw_skip (nrm_then ?_)
          refine cw_seq ?_
          refine cw_region ?_
          refine wl_val rfl (ex_move rfl) ?_
          refine wl_val rfl (ex_extern (vs := [_]) (e := Extern.MathFloatBits.float64bits) Tryd.func36 (by kernel_rfl) (by kernel_rfl) (by kernel_rfl) (by kernel_rfl) rfl rfl) ?_
          refine wl_val rfl (ex_move rfl) ?_
          refine wl_val rfl (ex_extern (vs := [_]) (e := Extern.MathFloatBits.float64bits) Tryd.func36 (by kernel_rfl) (by kernel_rfl) (by kernel_rfl) (by kernel_rfl) rfl rfl) ?_
          refine wl_val rfl (ex_neq rfl rfl) ?_
          refine wl_val rfl (ex_move rfl) ?_
          refine wl_split (t := 60) rfl (fun hs60 => ?_) (fun hs60 => ?_)
          · skip
            refine wl_go rfl rfl rfl rfl ?_
            refine wl_val rfl (ex_move rfl) ?_
            refine wl_go rfl rfl rfl rfl ?_
            refine wl_val rfl (ex_move rfl) ?_
            refine wl_go rfl rfl rfl rfl ?_
            refine wl_val rfl (ex_fneq rfl rfl) ?_
            rw [order_self]
            refine wl_go rfl rfl rfl rfl ?_
            refine wl_val rfl (ex_move rfl) ?_
            refine wl_splitb (t := 64) rfl (fun hs64 => ?_) (fun hs64 => ?_)
            · skip
              refine wl_go rfl rfl rfl rfl ?_
              refine wl_val rfl (ex_move rfl) ?_
              refine wl_go rfl rfl rfl rfl ?_
              refine wl_val rfl (ex_move rfl) ?_
              refine wl_go rfl rfl rfl rfl ?_
              refine wl_val rfl (ex_fneq rfl rfl) ?_
              rw [order_self]
              refine wl_go rfl rfl rfl rfl ?_
              refine wl_val rfl (ex_pick_t rfl rfl) ?_
              refine wl_go rfl rfl rfl rfl ?_
              refine wl_val rfl (ex_notb rfl) ?_
              refine wl_val rfl (ex_pick_t rfl rfl) ?_
              refine wl_val rfl (ex_move rfl) ?_
              refine wl_splitb (t := 71) rfl (fun hs71 => ?_) (fun hs71 => ?_)
              · skip
                refine wl_go rfl rfl rfl rfl ?_
                refine wl_val rfl (ex_move rfl) ?_
                refine wl_go rfl rfl rfl rfl ?_
                refine wl_val rfl (ex_move rfl) ?_
                refine wl_splitb (t := 73) rfl (fun hs73 => ?_) (fun hs73 => ?_)
                · skip
                  refine wl_go rfl rfl rfl rfl ?_
                  refine wl_val rfl (ex_move rfl) ?_
                  refine wl_go rfl rfl rfl rfl ?_
                  refine wl_val rfl (ex_move rfl) ?_
                  refine wl_go rfl rfl rfl rfl ?_
                  refine wl_val rfl (ex_indexAddr (n := k) rfl rfl Tryd.elem22 (by omega)) ?_
                  refine wl_go rfl rfl rfl rfl ?_
                  refine wl_val rfl (ex_fieldAddr rfl Tryd.fld41_2) ?_
                  refine wl_go rfl rfl rfl rfl ?_
                  refine wl_val rfl (ex_load1 rfl Tryd.agg4 ((hc1.evo hE10 (by simp)) 2 _ rfl)) ?_
                  refine wl_go rfl rfl rfl rfl ?_
                  refine wl_val rfl (ex_pick_t rfl rfl) ?_
                  refine wl_go rfl rfl rfl rfl ?_
                  refine wl_val rfl (ex_notb rfl) ?_
                  refine wl_val rfl (ex_pick_t rfl rfl) ?_
                  refine wl_nil (nrm_then ?_)
                  refine cw_ifb rfl (fun hc81 => ?_) (fun hc81 => ?_)
                  · skip
                    exfalso
                    rcases hav with h | ⟨h1, h2⟩ | ⟨h1, h2⟩ <;> first | omega | simp_all
                  · skip
                    refine cw_skip (nrm_block (nrm_then ?_))
                    refine cw_region ?_
                    refine wl_val rfl (ex_move rfl) ?_
                    refine wl_val rfl (ex_add_i64 rfl rfl (by omega) (by omega)) ?_
                    refine wl_val rfl (ex_assign rfl) ?_
                    refine wl_nil (nrm_same ?_)
                    refine ⟨k + 1, ?_, ⟨rfl, trivial⟩, ⟨rfl, rfl, rfl, trivial⟩, hE11, ?_⟩
                    · omega
                    · skip
                      exact (by omega)
                · skip
                  refine wl_no rfl rfl rfl rfl rfl rfl ?_
                  refine wl_no rfl rfl rfl rfl rfl rfl ?_
                  refine wl_no rfl rfl rfl rfl rfl rfl ?_
                  refine wl_no rfl rfl rfl rfl rfl rfl ?_
                  refine wl_no rfl rfl rfl rfl rfl rfl ?_
                  refine wl_go rfl rfl rfl rfl ?_
                  refine wl_val rfl (ex_pick_f rfl rfl) ?_
                  refine wl_go rfl rfl rfl rfl ?_
                  refine wl_val rfl (ex_notb rfl) ?_
                  refine wl_val rfl (ex_pick_t rfl rfl) ?_
                  refine wl_nil (nrm_then ?_)
                  refine cw_true rfl ?_
                  refine cw_seq ?_
                  refine cw_region ?_
                  refine wl_val rfl (ex_assign rfl) ?_
                  refine wl_nil (nrm_then ?_)
                  refine cw_ret (ret_block (ret_then (ret_then (ret_block (ret_then (body_ret1 rfl rfl ?_))))))
                  exfalso
                  rcases hav with h | ⟨h1, h2⟩ | ⟨h1, h2⟩ <;> first | omega | simp_all
              · skip
                refine wl_no rfl rfl rfl rfl rfl rfl ?_
                refine wl_no rfl rfl rfl rfl rfl rfl ?_
                refine wl_nou rfl rfl rfl rfl rfl ?_
                refine wl_nou rfl rfl rfl rfl rfl ?_
                refine wl_nou rfl rfl rfl rfl rfl ?_
                refine wl_nou rfl rfl rfl rfl rfl ?_
                refine wl_nou rfl rfl rfl rfl rfl ?_
                refine wl_no rfl rfl rfl rfl rfl rfl ?_
                refine wl_no rfl rfl rfl rfl rfl rfl ?_
                refine wl_val rfl (ex_pick_f rfl rfl) ?_
                refine wl_nil (nrm_then ?_)
                refine cw_false rfl ?_
                refine cw_skip (nrm_block (nrm_then ?_))
                refine cw_region ?_
                refine wl_val rfl (ex_move rfl) ?_
                refine wl_val rfl (ex_add_i64 rfl rfl (by omega) (by omega)) ?_
                refine wl_val rfl (ex_assign rfl) ?_
                refine wl_nil (nrm_same ?_)
                refine ⟨k + 1, ?_, ⟨rfl, trivial⟩, ⟨rfl, rfl, rfl, trivial⟩, hE11, ?_⟩
                · omega
                · skip
                  exact (by omega)
            · skip
              refine wl_no rfl rfl rfl rfl rfl rfl ?_
              refine wl_no rfl rfl rfl rfl rfl rfl ?_
              refine wl_no rfl rfl rfl rfl rfl rfl ?_
              refine wl_go rfl rfl rfl rfl ?_
              refine wl_val rfl (ex_pick_f rfl rfl) ?_
              refine wl_go rfl rfl rfl rfl ?_
              refine wl_val rfl (ex_notb rfl) ?_
              refine wl_val rfl (ex_pick_t rfl rfl) ?_
              refine wl_val rfl (ex_move rfl) ?_
              refine wl_go rfl rfl rfl rfl ?_
              refine wl_val rfl (ex_move rfl) ?_
              refine wl_go rfl rfl rfl rfl ?_
              refine wl_val rfl (ex_move rfl) ?_
              refine wl_splitb (t := 73) rfl (fun hs73 => ?_) (fun hs73 => ?_)
              · skip
                refine wl_go rfl rfl rfl rfl ?_
                refine wl_val rfl (ex_move rfl) ?_
                refine wl_go rfl rfl rfl rfl ?_
                refine wl_val rfl (ex_move rfl) ?_
                refine wl_go rfl rfl rfl rfl ?_
                refine wl_val rfl (ex_indexAddr (n := k) rfl rfl Tryd.elem22 (by omega)) ?_
                refine wl_go rfl rfl rfl rfl ?_
                refine wl_val rfl (ex_fieldAddr rfl Tryd.fld41_2) ?_
                refine wl_go rfl rfl rfl rfl ?_
                refine wl_val rfl (ex_load1 rfl Tryd.agg4 ((hc1.evo hE10 (by simp)) 2 _ rfl)) ?_
                refine wl_go rfl rfl rfl rfl ?_
                refine wl_val rfl (ex_pick_t rfl rfl) ?_
                refine wl_go rfl rfl rfl rfl ?_
                refine wl_val rfl (ex_notb rfl) ?_
                refine wl_val rfl (ex_pick_t rfl rfl) ?_
                refine wl_nil (nrm_then ?_)
                refine cw_ifb rfl (fun hc81 => ?_) (fun hc81 => ?_)
                · skip
                  exfalso
                  rcases hav with h | ⟨h1, h2⟩ | ⟨h1, h2⟩ <;> first | omega | simp_all
                · skip
                  refine cw_skip (nrm_block (nrm_then ?_))
                  refine cw_region ?_
                  refine wl_val rfl (ex_move rfl) ?_
                  refine wl_val rfl (ex_add_i64 rfl rfl (by omega) (by omega)) ?_
                  refine wl_val rfl (ex_assign rfl) ?_
                  refine wl_nil (nrm_same ?_)
                  refine ⟨k + 1, ?_, ⟨rfl, trivial⟩, ⟨rfl, rfl, rfl, trivial⟩, hE11, ?_⟩
                  · omega
                  · skip
                    exact (by omega)
              · skip
                refine wl_no rfl rfl rfl rfl rfl rfl ?_
                refine wl_no rfl rfl rfl rfl rfl rfl ?_
                refine wl_no rfl rfl rfl rfl rfl rfl ?_
                refine wl_no rfl rfl rfl rfl rfl rfl ?_
                refine wl_no rfl rfl rfl rfl rfl rfl ?_
                refine wl_go rfl rfl rfl rfl ?_
                refine wl_val rfl (ex_pick_f rfl rfl) ?_
                refine wl_go rfl rfl rfl rfl ?_
                refine wl_val rfl (ex_notb rfl) ?_
                refine wl_val rfl (ex_pick_t rfl rfl) ?_
                refine wl_nil (nrm_then ?_)
                refine cw_true rfl ?_
                refine cw_seq ?_
                refine cw_region ?_
                refine wl_val rfl (ex_assign rfl) ?_
                refine wl_nil (nrm_then ?_)
                refine cw_ret (ret_block (ret_then (ret_then (ret_block (ret_then (body_ret1 rfl rfl ?_))))))
                exfalso
                rcases hav with h | ⟨h1, h2⟩ | ⟨h1, h2⟩ <;> first | omega | simp_all
          · skip
            refine wl_no rfl rfl rfl rfl rfl rfl ?_
            refine wl_no rfl rfl rfl rfl rfl rfl ?_
            refine wl_no rfl rfl rfl rfl rfl rfl ?_
            refine wl_no rfl rfl rfl rfl rfl rfl ?_
            refine wl_nou rfl rfl rfl rfl rfl ?_
            refine wl_nou rfl rfl rfl rfl rfl ?_
            refine wl_nou rfl rfl rfl rfl rfl ?_
            refine wl_no rfl rfl rfl rfl rfl rfl ?_
            refine wl_no rfl rfl rfl rfl rfl rfl ?_
            refine wl_val rfl (ex_pick_f rfl rfl) ?_
            refine wl_val rfl (ex_move rfl) ?_
            refine wl_no rfl rfl rfl rfl rfl rfl ?_
            refine wl_no rfl rfl rfl rfl rfl rfl ?_
            refine wl_nou rfl rfl rfl rfl rfl ?_
            refine wl_nou rfl rfl rfl rfl rfl ?_
            refine wl_nou rfl rfl rfl rfl rfl ?_
            refine wl_nou rfl rfl rfl rfl rfl ?_
            refine wl_nou rfl rfl rfl rfl rfl ?_
            refine wl_no rfl rfl rfl rfl rfl rfl ?_
            refine wl_no rfl rfl rfl rfl rfl rfl ?_
            refine wl_val rfl (ex_pick_f rfl rfl) ?_
            refine wl_nil (nrm_then ?_)
            refine cw_false rfl ?_
            refine cw_skip (nrm_block (nrm_then ?_))
            refine cw_region ?_
            refine wl_val rfl (ex_move rfl) ?_
            refine wl_val rfl (ex_add_i64 rfl rfl (by omega) (by omega)) ?_
            refine wl_val rfl (ex_assign rfl) ?_
            refine wl_nil (nrm_same ?_)
            refine ⟨k + 1, ?_, ⟨rfl, trivial⟩, ⟨rfl, rfl, rfl, trivial⟩, hE11, ?_⟩
            · omega
            · skip
              exact (by omega)
    · skip
      refine cw_exit (ex_then (ex_then (ex_here (nrm_then ?_))))
      refine cw_seq ?_
      refine cw_region ?_
      refine wl_val rfl (ex_assign rfl) ?_
      refine wl_nil (nrm_then ?_)
      refine cw_ret (body_ret1 rfl rfl ?_)
      exact ⟨rfl, hE3⟩

theorem count_ok {X : List Nat} {w : World} {v0 : Value} {bs : List Nat} (hs : RSl 1 RB X w v0 bs) (hl : bs.length ≤ 140737488355328) (ht : Tab w) :
    Calls Tryd.prog 19 #[v0] w (Ret fun r w' => ∃ out e, r = .tuple #[.int .i64 (List.length (α := Smp) out), .int .i64 e] ∧ UnpackIs bs out e ∧ Evo [] w w') := by
  refine calls_of_cw (N := 14) Tryd.func19 rfl rfl rfl ?_
  refine cw_seq ?_
  refine cw_region ?_
  refine wl_val rfl (ex_assign rfl) ?_
  refine wl_val rfl (ex_assign rfl) ?_
  refine wl_nil (nrm_then ?_)
  refine cw_seq ?_
  refine cw_region ?_
  refine wl_val rfl (ex_move rfl) ?_
  refine wl_call1 (vs := [_]) Tryd.goes17 rfl (unpack_ok hs hl ht) rfl ?_
  rintro _ w1 ⟨v1, out, e, rfl, hs1, hU, hw2⟩
  have hE3 := (Evo.refl [] w).then hw2
  obtain ⟨a1, c1, rfl, -, -⟩ := hs1
  refine wl_val rfl (ex_move rfl) ?_
  refine wl_val rfl (ex_extract rfl rfl) ?_
  refine wl_val rfl (ex_extract rfl rfl) ?_
  refine wl_val rfl (ex_assign rfl) ?_
  refine wl_val rfl (ex_assign rfl) ?_
  refine wl_nil (nrm_then ?_)
  refine cw_seq ?_
  refine cw_region ?_
  refine wl_val rfl (ex_move rfl) ?_
  refine wl_val rfl (ex_len_slice rfl Tryd.underlying22 rfl) ?_
  refine wl_val rfl (ex_move rfl) ?_
  refine wl_val rfl (ex_assign rfl) ?_
  refine wl_val rfl (ex_assign rfl) ?_
  refine wl_nil (nrm_then ?_)
  refine cw_ret (body_ret2 rfl rfl rfl ?_)
  exact ⟨out, e, rfl, hU, hE3⟩


def betw (after upto : Int) (l : List Smp) : List Smp := l.filter fun s => decide (after < s.t) && decide (s.t ≤ upto)
theorem betw_in {after upto : Int} {l : List Smp} {k : Nat} (hk : k < l.length) (h1 : after < l[k].t) (h2 : l[k].t ≤ upto) : betw after upto (l.take (k + 1)) = betw after upto (l.take k) ++ [l[k]] := by
  simp only [betw, take_snoc hk, List.filter_append, List.filter_cons, decide_eq_true h1, decide_eq_true h2, Bool.and_self, if_true, List.filter_nil]
theorem betw_out {after upto : Int} {l : List Smp} {k : Nat} (hk : k < l.length) (h : ¬ (after < l[k].t ∧ l[k].t ≤ upto)) : betw after upto (l.take (k + 1)) = betw after upto (l.take k) := by
  have : (decide (after < l[k].t) && decide (l[k].t ≤ upto)) = false := by
    rw [Bool.and_eq_false_iff]
    by_cases h1 : after < l[k].t
    · exact .inr (decide_eq_false fun h2 => h ⟨h1, h2⟩)
    · exact .inl (decide_eq_false h1)
  simp only [betw, take_snoc hk, List.filter_append, List.filter_cons, this, List.filter_nil, List.append_nil]
  simp
theorem betw_ok {after upto : Int} {l : List Smp} (h : ∀ s, s ∈ l → s.Ok) (k : Nat) : ∀ s, s ∈ betw after upto (l.take k) → s.Ok := fun s hs => h s (List.mem_of_mem_take (List.mem_filter.1 hs).1)
theorem betw_len {after upto : Int} {l : List Smp} (k : Nat) : (betw after upto (l.take k)).length ≤ k := by
  have h1 := List.length_filter_le (fun s : Smp => decide (after < s.t) && decide (s.t ≤ upto)) (l.take k)
  have h2 : (l.take k).length ≤ k := by simp only [List.length_take]; omega
  exact Nat.le_trans h1 h2
theorem upk_len {bs : List Nat} {out : List Smp} {e : Int} (h : UnpackIs bs out e) : out.length ≤ 100000 := by
  rcases h with ⟨_, h, _⟩ | ⟨_, h, _⟩
  · exact h.len
  · rw [h]; simp
theorem upk_bad {bs : List Nat} {out : List Smp} {e : Int} (h : UnpackIs bs out e) (he : ¬ e = 0) : out = [] := by
  rcases h with ⟨h, _⟩ | ⟨_, h, _⟩
  · exact absurd h he
  · exact h
theorem upk_err {bs : List Nat} {out : List Smp} {e : Int} (h : UnpackIs bs out e) : e = 0 ∨ e = 171 := by
  rcases h with ⟨h, _⟩ | ⟨h, _⟩
  · exact .inl h
  · exact .inr h

theorem between_new {X : List Nat} {w : World} {v0 : Value} {bs : List Nat} (after upto : Int) (hs : RSl 1 RB X w v0 bs) (hl : bs.length ≤ 140737488355328) (ht : Tab w) :
    Calls Tryd.prog 27 #[v0, .int .i64 after, .int .i64 upto] w (Ret fun r w' => ∃ a n c out e ob, r = .tuple #[.slice a n c, .int .i64 e] ∧ UnpackIs bs out e ∧ OwnS w' 41 3 a n c (srows (betw after upto out)) ob ∧ (betw after upto out).length = n ∧ (∀ s, s ∈ betw after upto out → s.Ok) ∧ Ge w ob ∧ Evo [] w w') := by
  refine calls_of_cw (N := 43) Tryd.func27 rfl rfl rfl ?_
  refine cw_seq ?_
  refine cw_region ?_
  refine wl_val rfl (ex_assign rfl) ?_
  refine wl_val rfl (ex_assign rfl) ?_
  refine wl_nil (nrm_then ?_)
  refine cw_seq ?_
  refine cw_region ?_
  refine wl_val rfl (ex_move rfl) ?_
  refine wl_call1 (vs := [_]) Tryd.goes17 rfl (unpack_ok hs hl ht) rfl ?_
  rintro _ w1 ⟨v1, out, e, rfl, hs1, hU, hw2⟩
  have hE3 := (Evo.refl [] w).then hw2
  have hs2 := hs1
  have hok := rsl_ok hs1
  have hul := upk_len hU
  obtain ⟨a0, c0, rfl, -, -⟩ := hs1
  refine wl_val rfl (ex_move rfl) ?_
  refine wl_val rfl (ex_extract rfl rfl) ?_
  refine wl_val rfl (ex_extract rfl rfl) ?_
  refine wl_val rfl (ex_assign rfl) ?_
  refine wl_val rfl (ex_assign rfl) ?_
  refine wl_nil (nrm_then ?_)
  refine cw_seq ?_
  refine cw_seq ?_
  refine cw_region ?_
  refine wl_val rfl (ex_move rfl) ?_
  refine wl_val rfl (ex_neq rfl rfl) ?_
  refine wl_nil (nrm_then ?_)
  refine cw_if rfl (fun hc19 => ?_) (fun hc19 => ?_)
  · skip
    refine cw_seq ?_
    refine cw_region ?_
    refine wl_val rfl (ex_move rfl) ?_
    refine wl_val rfl (ex_assign rfl) ?_
    refine wl_val rfl (ex_assign rfl) ?_
    refine wl_nil (nrm_then ?_)
    refine cw_ret (ret_then (body_ret2 rfl rfl rfl ?_))
    have hnl := upk_bad hU (by omega)
    subst hnl
    exact ⟨none, 0, 0, [], e, none, rfl, hU, OwnS.nil _ _ _, rfl, fun _ h => (by cases h), Ge.nil _, hE3⟩
  · skip
    refine cw_skip (nrm_then ?_)
    refine cw_seq ?_
    refine cw_region ?_
    refine wl_val rfl (ex_assign rfl) ?_
    refine wl_nil (nrm_then ?_)
    refine cw_seq ?_
    refine cw_seq ?_
    refine cw_region ?_
    refine wl_val rfl (ex_move rfl) ?_
    refine wl_val rfl (ex_len_slice rfl Tryd.underlying22 rfl) ?_
    refine wl_val rfl (ex_move rfl) ?_
    refine wl_nil (nrm_then ?_)
    refine cw_block ?_
    refine cw_loop (α := Nat × Nat × Option Addr × Nat × Option Nat) ((0, 0, none, 0, none)) (fun x => [(23, .int .i64 (x.1 : Nat)), (10, .slice x.2.2.1 x.2.1 x.2.2.2.1)]) [(1, _), (2, _), (6, _), (7, _), (21, _), (22, _)] (fun x wr => Evo [] w1 wr ∧ (x.1 ≤ out.length ∧ x.2.1 = (betw after upto (out.take x.1)).length ∧ OwnS wr 41 3 x.2.2.1 x.2.1 x.2.2.2.1 (srows (betw after upto (out.take x.1))) x.2.2.2.2 ∧ Ge w1 x.2.2.2.2)) (fun x => out.length - x.1) ⟨rfl, rfl, trivial⟩ ⟨rfl, rfl, rfl, rfl, rfl, rfl, trivial⟩ ⟨Evo.refl _ _, ⟨Nat.zero_le _, rfl, OwnS.nil _ _ _, Ge.nil _⟩⟩ ?_
    rintro ⟨k, m, a, c, ob⟩ wr4 ⟨hV5, ⟨hk, hm, hO, hgo⟩⟩
    show CW _ _ _ _ [(23, .int .i64 (k : Nat)), (10, .slice a m c), (1, _), (2, _), (6, _), (7, _), (21, _), (22, _)] _
    try dsimp only at hk
    try dsimp only at hm
    try dsimp only at hO
    try dsimp only at hgo
    have hE6 := hE3.then hV5
    have hE7 := (Evo.refl [] w1).then hV5
    have hgo2 := Ge.fresh hE3 hgo
    have hgo3 := Ge.fresh (Evo.refl [] w1) hgo
    have hbl := betw_len (after := after) (upto := upto) (l := out) k
    refine cw_seq ?_
    refine cw_region ?_
    refine wl_val rfl (ex_lss rfl rfl) ?_
    refine wl_nil (nrm_then ?_)
    refine cw_seq ?_
    refine cw_if rfl (fun hc24 => ?_) (fun hc24 => ?_)
    · skip
      have hk' : k < out.length := by omega
      obtain ⟨_, b1, o1, rfl, -, hc1⟩ := smp_at hs2 hk'
      refine cw_skip (nrm_then ?_)
      refine cw_seq ?_
      refine cw_block ?_
      refine cw_seq ?_
      refine cw_region ?_
      refine wl_val rfl (ex_indexAddr (n := k) rfl rfl Tryd.elem22 (by omega)) ?_
      refine wl_val rfl (ex_loadA rfl Tryd.agg41 Tryd.size41 (vs := [_, _, _]) rfl (hc1.evo hE7 (by simp))) ?_
      refine wl_alloc rfl Tryd.zero41 fun b8 w9 hB10 hs11 hw12 => ?_
      have hA13 := Apart.new (Lt.own hO) hs11
      have hG14 := Ge.new hE6 hs11
      have hG15 := Ge.new hE7 hs11
      have hG16 := Ge.new hV5 hs11
      have hE17 := hE6.then hw12
      have hE18 := hE7.then hw12
      have hE19 := hV5.then hw12
      have hO20 := hO.evo0 hw12
      refine wl_storeBlk rfl rfl Tryd.size41 hB10 rfl rfl ⟨by first | rfl | assumption, by first | rfl | assumption, by first | rfl | assumption, trivial⟩ fun w21 hB22 hw23 => ?_
      have hE24 := hE17.step hw23 hG14.mem1
      have hE25 := hE18.step hw23 hG15.mem1
      have hE26 := hE19.step hw23 hG16.mem1
      have hO27 := hO20.evo hw23 hA13.own1
      refine wl_nil (nrm_then ?_)
      refine cw_seq ?_
      refine cw_region ?_
      refine wl_val rfl (ex_move rfl) ?_
      refine wl_val rfl (ex_fieldAddr rfl Tryd.fld41_0) ?_
      refine wl_val rfl (ex_load1 rfl Tryd.agg2 (cell_nth hB22 rfl)) ?_
      refine wl_val rfl (ex_lss rfl rfl) ?_
      refine wl_val rfl (ex_move rfl) ?_
      refine wl_split (t := 31) rfl (fun hs31 => ?_) (fun hs31 => ?_)
      · skip
        refine wl_go rfl rfl rfl rfl ?_
        refine wl_val rfl (ex_fieldAddr rfl Tryd.fld41_0) ?_
        refine wl_go rfl rfl rfl rfl ?_
        refine wl_val rfl (ex_load1 rfl Tryd.agg2 (cell_nth hB22 rfl)) ?_
        refine wl_go rfl rfl rfl rfl ?_
        refine wl_val rfl (ex_move rfl) ?_
        refine wl_go rfl rfl rfl rfl ?_
        refine wl_val rfl (ex_leq rfl rfl) ?_
        refine wl_val rfl (ex_pick_t rfl rfl) ?_
        refine wl_nil (nrm_then ?_)
        refine cw_if rfl (fun hc36 => ?_) (fun hc36 => ?_)
        · skip
          refine cw_region ?_
          refine wl_val rfl (ex_move rfl) ?_
          refine wl_val rfl (ex_loadBlk rfl Tryd.agg41 Tryd.size41 hB22 rfl) ?_
          refine wl_bslice (vs := [_]) rfl Tryd.slice22 rfl rfl rfl rfl fun b28 w29 hO30 hs31 hw32 => ?_
          have hA33 := Apart.new (Lt.own hO27) hs31
          have hA34 := Apart.new (Lt.blk hB22) hs31
          have hG35 := Ge.new hE24 hs31
          have hG36 := Ge.new hE25 hs31
          have hG37 := Ge.new hE26 hs31
          have hE38 := hE24.then hw32
          have hE39 := hE25.then hw32
          have hE40 := hE26.then hw32
          have hO41 := hO27.evo0 hw32
          have hB42 := hw32.blk0 hB22
          refine wl_append rfl rfl rfl rfl Tryd.app22_22 hO41 (Src.ofOwn hO30 ⟨by first | rfl | assumption, by first | rfl | assumption, by first | rfl | assumption, trivial⟩) (by omega) fun a1 c1 w45 ob1 hO1 hw48 hob49 => ?_
          have hA50 := hA13.symm.app (Lt.blk hB42) hob49
          have hA51 := hA33.symm.app (Lt.own hO30) hob49
          have hG52 := hgo2.app hE38 hob49
          have hG53 := hgo3.app hE39 hob49
          have hG54 := hgo.app hE40 hob49
          have hE55 := hE38.step hw48 hgo2.mem
          have hE56 := hE39.step hw48 hgo3.mem
          have hE57 := hE40.step hw48 hgo.mem
          have hB58 := hw48.blk hB42 hA13.symm.nmem
          have hO59 := hO30.evo hw48 hA33.symm.own
          refine wl_val rfl (ex_assign rfl) ?_
          refine wl_nil (nrm_block (nrm_then ?_))
          refine cw_region ?_
          refine wl_val rfl (ex_add_i64 rfl rfl (by omega) (by omega)) ?_
          refine wl_val rfl (ex_move rfl) ?_
          refine wl_nil (nrm_same ?_)
          refine ⟨(k + 1, m + 1, a1, c1, ob1), ?_, ⟨rfl, rfl, trivial⟩, ⟨rfl, rfl, rfl, rfl, rfl, rfl, trivial⟩, hE57, ?_⟩
          · (try dsimp only); omega
          · skip
            try dsimp only
            rw [betw_in hk' (by omega) (by omega)]
            refine ⟨by omega, by rw [List.length_append, hm]; rfl, ?_, hG54⟩
            rw [srows_snoc]; exact hO1
        · skip
          refine cw_skip (nrm_block (nrm_then ?_))
          refine cw_region ?_
          refine wl_val rfl (ex_add_i64 rfl rfl (by omega) (by omega)) ?_
          refine wl_val rfl (ex_move rfl) ?_
          refine wl_nil (nrm_same ?_)
          refine ⟨(k + 1, m, a, c, ob), ?_, ⟨rfl, rfl, trivial⟩, ⟨rfl, rfl, rfl, rfl, rfl, rfl, trivial⟩, hE26, ?_⟩
          · (try dsimp only); omega
          · skip
            try dsimp only
            rw [betw_out hk' (by omega)]
            exact ⟨by omega, hm, hO27, hgo⟩
      · skip
        refine wl_no rfl rfl rfl rfl rfl rfl ?_
        refine wl_no rfl rfl rfl rfl rfl rfl ?_
        refine wl_no rfl rfl rfl rfl rfl rfl ?_
        refine wl_no rfl rfl rfl rfl rfl rfl ?_
        refine wl_val rfl (ex_pick_f rfl rfl) ?_
        refine wl_nil (nrm_then ?_)
        refine cw_false rfl ?_
        refine cw_skip (nrm_block (nrm_then ?_))
        refine cw_region ?_
        refine wl_val rfl (ex_add_i64 rfl rfl (by omega) (by omega)) ?_
        refine wl_val rfl (ex_move rfl) ?_
        refine wl_nil (nrm_same ?_)
        refine ⟨(k + 1, m, a, c, ob), ?_, ⟨rfl, rfl, trivial⟩, ⟨rfl, rfl, rfl, rfl, rfl, rfl, trivial⟩, hE26, ?_⟩
        · (try dsimp only); omega
        · skip
          try dsimp only
          rw [betw_out hk' (by omega)]
          exact ⟨by omega, hm, hO27, hgo⟩
    · skip
      refine cw_exit (ex_then (ex_then (ex_here (nrm_then ?_))))
      refine cw_seq ?_
      refine cw_region ?_
      refine wl_val rfl (ex_move rfl) ?_
      refine wl_val rfl (ex_assign rfl) ?_
      refine wl_val rfl (ex_assign rfl) ?_
      refine wl_nil (nrm_then ?_)
      refine cw_ret (body_ret2 rfl rfl rfl ?_)
      have hkl : k = out.length := by omega
      subst hkl
      have hO9 := hO
      have hb9 := betw_ok (after := after) (upto := upto) hok out.length
      rw [List.take_length] at hO9 hm hb9
      have he0 : e = 0 := by omega
      subst he0
      exact ⟨a, m, c, out, 0, ob, rfl, hU, hO9, hm.symm, hb9, hgo2, hE6⟩


theorem between_ok {X : List Nat} {w : World} {v0 : Value} {bs : List Nat} (after upto : Int) (hs : RSl 1 RB X w v0 bs) (hl : bs.length ≤ 140737488355328) (ht : Tab w) :
    Calls Tryd.prog 27 #[v0, .int .i64 after, .int .i64 upto] w (Ret fun r w' => ∃ v out e, r = .tuple #[v, .int .i64 e] ∧ UnpackIs bs out e ∧ RSl 3 RSmp [] w' v (betw after upto out) ∧ Evo [] w w') :=
  (between_new after upto hs hl ht).mono fun _ _ ⟨v, he, _, _, _, out, e1, _, hv, hP, hO, hn, hb, _, hE⟩ => ⟨v, he, _, out, e1, hv, hP, own_smp hO hn hb (fun _ _ => by simp), hE⟩

theorem refBetween_ok {X : List Nat} {w : World} {v0 : Value} {bs : List Nat} (after upto : Int) (hs : RSl 1 RB X w v0 bs) (hl : bs.length ≤ 140737488355328) :
    Calls Tryd.prog 30 #[v0, .int .i64 after, .int .i64 upto] w (Ret fun r w' => ∃ v out e, r = .tuple #[v, .int .i64 e] ∧ UnpackIs bs out e ∧ RSl 3 RSmp [] w' v (betw after upto out) ∧ Evo [] w w') := by
  refine calls_of_cw (N := 48) Tryd.func30 rfl rfl rfl ?_
  refine cw_seq ?_
  refine cw_region ?_
  refine wl_val rfl (ex_assign rfl) ?_
  refine wl_val rfl (ex_assign rfl) ?_
  refine wl_nil (nrm_then ?_)
  refine cw_seq ?_
  refine cw_region ?_
  refine wl_val rfl (ex_move rfl) ?_
  refine wl_call1 (vs := [_]) Tryd.goes29 rfl (refUnpack_ok hs hl) rfl ?_
  rintro _ w1 ⟨v1, out, e, rfl, hs1, hU, hw2⟩
  have hE3 := (Evo.refl [] w).then hw2
  have hs2 := hs1
  have hok := rsl_ok hs1
  have hul := upk_len hU
  obtain ⟨a0, c0, rfl, -, -⟩ := hs1
  refine wl_val rfl (ex_move rfl) ?_
  refine wl_val rfl (ex_extract rfl rfl) ?_
  refine wl_val rfl (ex_extract rfl rfl) ?_
  refine wl_val rfl (ex_assign rfl) ?_
  refine wl_val rfl (ex_assign rfl) ?_
  refine wl_nil (nrm_then ?_)
  refine cw_seq ?_
  refine cw_region ?_
  refine wl_val rfl (ex_assign rfl) ?_
  refine wl_nil (nrm_then ?_)
  refine cw_seq ?_
  refine cw_seq ?_
  refine cw_region ?_
  refine wl_val rfl (ex_assign rfl) ?_
  refine wl_nil (nrm_then ?_)
  refine cw_block ?_
  refine cw_loop (α := Nat × Nat × Option Addr × Nat × Option Nat) ((0, 0, none, 0, none)) (fun x => [(11, .int .i64 (x.1 : Nat)), (10, .slice x.2.2.1 x.2.1 x.2.2.2.1)]) [(1, _), (2, _), (6, _), (7, _), (8, _), (9, _)] (fun x wr => Evo [] w1 wr ∧ (x.1 ≤ out.length ∧ x.2.1 = (betw after upto (out.take x.1)).length ∧ OwnS wr 41 3 x.2.2.1 x.2.1 x.2.2.2.1 (srows (betw after upto (out.take x.1))) x.2.2.2.2 ∧ Ge w1 x.2.2.2.2)) (fun x => out.length - x.1) ⟨rfl, rfl, trivial⟩ ⟨rfl, rfl, rfl, rfl, rfl, rfl, trivial⟩ ⟨Evo.refl _ _, ⟨Nat.zero_le _, rfl, OwnS.nil _ _ _, Ge.nil _⟩⟩ ?_
  rintro ⟨k, m, a, c, ob⟩ wr4 ⟨hV5, ⟨hk, hm, hO, hgo⟩⟩
  show CW _ _ _ _ [(11, .int .i64 (k : Nat)), (10, .slice a m c), (1, _), (2, _), (6, _), (7, _), (8, _), (9, _)] _
  try dsimp only at hk
  try dsimp only at hm
  try dsimp only at hO
  try dsimp only at hgo
  have hE6 := hE3.then hV5
  have hE7 := (Evo.refl [] w1).then hV5
  have hgo2 := Ge.fresh hE3 hgo
  have hgo3 := Ge.fresh (Evo.refl [] w1) hgo
  have hbl := betw_len (after := after) (upto := upto) (l := out) k
  refine cw_seq ?_
  refine cw_seq ?_
  refine cw_region ?_
  refine wl_val rfl (ex_move rfl) ?_
  refine wl_val rfl (ex_move rfl) ?_
  refine wl_val rfl (ex_len_slice rfl Tryd.underlying22 rfl) ?_
  refine wl_val rfl (ex_lss rfl rfl) ?_
  refine wl_nil (nrm_then ?_)
  refine cw_if rfl (fun hc20 => ?_) (fun hc20 => ?_)
  · skip
    have hk' : k < out.length := by omega
    obtain ⟨_, b1, o1, rfl, -, hc1⟩ := smp_at hs2 hk'
    refine cw_skip (nrm_then ?_)
    refine cw_seq ?_
    refine cw_block ?_
    refine cw_seq ?_
    refine cw_region ?_
    refine wl_val rfl (ex_move rfl) ?_
    refine wl_val rfl (ex_move rfl) ?_
    refine wl_val rfl (ex_move rfl) ?_
    refine wl_val rfl (ex_indexAddr (n := k) rfl rfl Tryd.elem22 (by omega)) ?_
    refine wl_val rfl (ex_fieldAddr rfl Tryd.fld41_0) ?_
    refine wl_val rfl (ex_load1 rfl Tryd.agg2 ((hc1.evo hE7 (by simp)) 0 _ rfl)) ?_
    refine wl_val rfl (ex_lss rfl rfl) ?_
    refine wl_val rfl (ex_move rfl) ?_
    refine wl_split (t := 30) rfl (fun hs30 => ?_) (fun hs30 => ?_)
    · skip
      refine wl_go rfl rfl rfl rfl ?_
      refine wl_val rfl (ex_move rfl) ?_
      refine wl_go rfl rfl rfl rfl ?_
      refine wl_val rfl (ex_move rfl) ?_
      refine wl_go rfl rfl rfl rfl ?_
      refine wl_val rfl (ex_indexAddr (n := k) rfl rfl Tryd.elem22 (by omega)) ?_
      refine wl_go rfl rfl rfl rfl ?_
      refine wl_val rfl (ex_fieldAddr rfl Tryd.fld41_0) ?_
      refine wl_go rfl rfl rfl rfl ?_
      refine wl_val rfl (ex_load1 rfl Tryd.agg2 ((hc1.evo hE7 (by simp)) 0 _ rfl)) ?_
      refine wl_go rfl rfl rfl rfl ?_
      refine wl_val rfl (ex_move rfl) ?_
      refine wl_go rfl rfl rfl rfl ?_
      refine wl_val rfl (ex_leq rfl rfl) ?_
      refine wl_val rfl (ex_pick_t rfl rfl) ?_
      refine wl_nil (nrm_then ?_)
      refine cw_if rfl (fun hc38 => ?_) (fun hc38 => ?_)
      · skip
        refine cw_region ?_
        refine wl_val rfl (ex_move rfl) ?_
        refine wl_val rfl (ex_move rfl) ?_
        refine wl_val rfl (ex_move rfl) ?_
        refine wl_val rfl (ex_indexAddr (n := k) rfl rfl Tryd.elem22 (by omega)) ?_
        refine wl_val rfl (ex_loadA rfl Tryd.agg41 Tryd.size41 (vs := [_, _, _]) rfl (hc1.evo hE7 (by simp))) ?_
        refine wl_bslice (vs := [_]) rfl Tryd.slice22 rfl rfl rfl rfl fun b8 w9 hO10 hs11 hw12 => ?_
        have hA13 := Apart.new (Lt.own hO) hs11
        have hG14 := Ge.new hE6 hs11
        have hG15 := Ge.new hE7 hs11
        have hG16 := Ge.new hV5 hs11
        have hE17 := hE6.then hw12
        have hE18 := hE7.then hw12
        have hE19 := hV5.then hw12
        have hO20 := hO.evo0 hw12
        refine wl_append rfl rfl rfl rfl Tryd.app22_22 hO20 (Src.ofOwn hO10 ⟨by first | rfl | assumption, by first | rfl | assumption, by first | rfl | assumption, trivial⟩) (by omega) fun a1 c1 w23 ob1 hO1 hw26 hob27 => ?_
        have hA28 := hA13.symm.app (Lt.own hO10) hob27
        have hG29 := hgo2.app hE17 hob27
        have hG30 := hgo3.app hE18 hob27
        have hG31 := hgo.app hE19 hob27
        have hE32 := hE17.step hw26 hgo2.mem
        have hE33 := hE18.step hw26 hgo3.mem
        have hE34 := hE19.step hw26 hgo.mem
        have hO35 := hO10.evo hw26 hA13.symm.own
        refine wl_val rfl (ex_assign rfl) ?_
        refine wl_nil (nrm_block (nrm_then ?_))
        refine cw_region ?_
        refine wl_val rfl (ex_move rfl) ?_
        refine wl_val rfl (ex_add_i64 rfl rfl (by omega) (by omega)) ?_
        refine wl_val rfl (ex_assign rfl) ?_
        refine wl_nil (nrm_same ?_)
        refine ⟨(k + 1, m + 1, a1, c1, ob1), ?_, ⟨rfl, rfl, trivial⟩, ⟨rfl, rfl, rfl, rfl, rfl, rfl, trivial⟩, hE34, ?_⟩
        · (try dsimp only); omega
        · skip
          try dsimp only
          rw [betw_in hk' (by omega) (by omega)]
          refine ⟨by omega, by rw [List.length_append, hm]; rfl, ?_, hG31⟩
          rw [srows_snoc]; exact hO1
      · skip
        refine cw_skip (nrm_block (nrm_then ?_))
        refine cw_region ?_
        refine wl_val rfl (ex_move rfl) ?_
        refine wl_val rfl (ex_add_i64 rfl rfl (by omega) (by omega)) ?_
        refine wl_val rfl (ex_assign rfl) ?_
        refine wl_nil (nrm_same ?_)
        refine ⟨(k + 1, m, a, c, ob), ?_, ⟨rfl, rfl, trivial⟩, ⟨rfl, rfl, rfl, rfl, rfl, rfl, trivial⟩, hV5, ?_⟩
        · (try dsimp only); omega
        · skip
          try dsimp only
          rw [betw_out hk' (by omega)]
          exact ⟨by omega, hm, hO, hgo⟩
    · skip
      refine wl_no rfl rfl rfl rfl rfl rfl ?_
      refine wl_no rfl rfl rfl rfl rfl rfl ?_
      refine wl_no rfl rfl rfl rfl rfl rfl ?_
      refine wl_no rfl rfl rfl rfl rfl rfl ?_
      refine wl_no rfl rfl rfl rfl rfl rfl ?_
      refine wl_no rfl rfl rfl rfl rfl rfl ?_
      refine wl_no rfl rfl rfl rfl rfl rfl ?_
      refine wl_val rfl (ex_pick_f rfl rfl) ?_
      refine wl_nil (nrm_then ?_)
      refine cw_false rfl ?_
      refine cw_skip (nrm_block (nrm_then ?_))
      refine cw_region ?_
      refine wl_val rfl (ex_move rfl) ?_
      refine wl_val rfl (ex_add_i64 rfl rfl (by omega) (by omega)) ?_
      refine wl_val rfl (ex_assign rfl) ?_
      refine wl_nil (nrm_same ?_)
      refine ⟨(k + 1, m, a, c, ob), ?_, ⟨rfl, rfl, trivial⟩, ⟨rfl, rfl, rfl, rfl, rfl, rfl, trivial⟩, hV5, ?_⟩
      · (try dsimp only); omega
      · skip
        try dsimp only
        rw [betw_out hk' (by omega)]
        exact ⟨by omega, hm, hO, hgo⟩
  · skip
    refine cw_exit (ex_then (ex_then (ex_here (nrm_then ?_))))
    refine cw_seq ?_
    refine cw_region ?_
    refine wl_val rfl (ex_move rfl) ?_
    refine wl_val rfl (ex_move rfl) ?_
    refine wl_val rfl (ex_assign rfl) ?_
    refine wl_val rfl (ex_assign rfl) ?_
    refine wl_nil (nrm_then ?_)
    refine cw_ret (body_ret2 rfl rfl rfl ?_)
    have hkl : k = out.length := by omega
    subst hkl
    have hO9 := own_smp (X := []) hO hm.symm (betw_ok hok _) (fun _ _ => by simp)
    rw [List.take_length] at hO9
    exact ⟨_, out, e, rfl, hU, hO9, hE6⟩

end Go.Proofs.YtclmkppiolfgbaaDoor
