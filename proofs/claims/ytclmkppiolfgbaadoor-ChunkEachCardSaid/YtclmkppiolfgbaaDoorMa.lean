/- Each: the iterator (it hands on every sample in its order, or leaves early), and what Each answers. -/
import Derived.Test.YtclmkppiolfgbaaDoorLs
import Derived.Test.YtclmkppiolfgbaaDoorFw8
namespace Go.Proofs.YtclmkppiolfgbaaDoor
open Go.Proofs
open Go.W Go.RowKit
attribute [local irreducible] Decidable.decide
set_option linter.unusedSimpArgs false
set_option linter.unusedVariables false
theorem Tryd.agg22 : aggB Tryd.prog 22 = some false := by kernel_rfl

theorem each1_ok {n0 lp Bs : Nat} {W : World} {sv : Value} {l : List Smp} {J Jx : List Smp → World → Prop} (hn0 : n0 ≤ W.heap.size) (hB : W.heap[Bs]? = some (.cells #[sv] 22 (0, 0))) (hs : RSl 3 RSmp (XB n0 W) W sv l) (hl : l.length ≤ 1000000000)
    (hJ : AbidesFrom W.heap.size J) (hY : ∀ pre x W1, J pre W1 → pre.length < l.length → YieldAt Fence.wide 3 Tryd.prog lp #[.agg (srow x).toArray] W1 fun e W' => (e = .returned (.bool true) ∧ J (pre ++ [x]) W' ∧ Below n0 W1 W') ∨ (e = .returned (.bool false) ∧ Jx (pre ++ [x]) W')) (h0 : J [] W) :
    Calls Tryd.prog 37 #[.func (.yield lp) #[] #[], .pointer (some ⟨Bs, 0, none⟩)] W (Ret fun v W' => J l W' ∨ ∃ pre, pre <+: l ∧ Jx pre W') := by
  obtain ⟨sa, sc, rfl, hlc, e1⟩ := hs
  refine calls_of_cw (N := 16) Tryd.func37 rfl rfl rfl ?_
  refine cw_seq ?_
  refine cw_region ?_
  refine wl_val rfl (ex_load1 rfl Tryd.agg22 (cell_nth hB rfl)) ?_
  refine wl_val rfl (ex_len_slice rfl Tryd.underlying22 rfl) ?_
  refine wl_val rfl (ex_move rfl) ?_
  refine wl_nil (nrm_then ?_)
  refine cw_block ?_
  refine cw_loop (α := Nat) (0) (fun k => [(7, .int .i64 (k : Nat))]) [(0, _), (5, _), (6, _)] (fun k wr => Evo (XB n0 W) W wr ∧ (k ≤ l.length ∧ J (l.take k) wr)) (fun k => l.length - k) ⟨rfl, trivial⟩ ⟨rfl, rfl, rfl, trivial⟩ ⟨(Evo.refl (XB n0 W) W), ⟨Nat.zero_le _, h0⟩⟩ ?_
  rintro k wr1 ⟨hV2, ⟨hk, hj⟩⟩
  show CW _ _ _ _ [(7, _), (0, _), (5, _), (6, _)] _
  have hE3 := Evo.refl ([]) wr1
  refine cw_seq ?_
  refine cw_region ?_
  refine wl_val rfl (ex_lss rfl rfl) ?_
  refine wl_nil (nrm_then ?_)
  refine cw_seq ?_
  refine cw_if rfl (fun hc8 => ?_) (fun hc8 => ?_)
  · skip
    have hk' : k < l.length := by omega
    obtain ⟨b1, o1, vs1, ha1, hb1, -, hc1, rfl, hok1⟩ := e1 k hk'
    refine cw_skip (nrm_then ?_)
    refine cw_seq ?_
    refine cw_block ?_
    refine cw_seq ?_
    refine cw_region ?_
    refine wl_val rfl (ex_indexAddr (n := k) (by rw [ha1]; rfl) rfl Tryd.elem22 (by omega)) ?_
    refine wl_val rfl (ex_loadA rfl Tryd.agg41 Tryd.size41 (vs := [_, _, _]) rfl (hc1.evo hV2 hb1)) ?_
    refine wl_alloc rfl Tryd.zero41 fun b4 w4 hB5 hs6 hw7 => ?_
    have hG8 := Ge.new hV2 hs6
    have hG9 := Ge.new hE3 hs6
    have hE10 := hV2.then hw7
    have hE11 := hE3.then hw7
    refine wl_storeBlk rfl rfl Tryd.size41 hB5 rfl rfl ⟨by first | rfl | assumption, by first | rfl | assumption, by first | rfl | assumption, trivial⟩ fun w12 hB13 hw14 => ?_
    have hE15 := hE10.step hw14 hG8.mem1
    have hE16 := hE11.step hw14 hG9.mem1
    refine wl_nil (nrm_then ?_)
    refine cw_seq ?_
    refine cw_regionY (n := 4) ?_
    refine wly_val rfl (ex_move rfl) ?_
    refine wly_val rfl (ex_loadBlk rfl Tryd.agg41 Tryd.size41 hB13 rfl) ?_
    refine wly_yield rfl rfl rfl (hY (l.take k) l[k] w12 (hJ _ _ _ none hj (evo_grown hE16) (fun r e => by cases e)) (by rw [List.length_take]; omega)) ?_
    rintro e w9 (⟨rfl, hj9, hk9⟩ | ⟨rfl, hj9⟩)
    · skip
      refine ⟨_, rfl, ?_⟩
      refine wly_val rfl (ex_notb rfl) ?_
      refine wly_nil (nrm_then ?_)
      have hE9 := xb_then hE15 hk9 hn0
      refine cw_false rfl ?_
      refine cw_skip (nrm_block (nrm_then ?_))
      refine cw_region ?_
      refine wl_val rfl (ex_add_i64 rfl rfl (by omega) (by omega)) ?_
      refine wl_val rfl (ex_move rfl) ?_
      refine wl_nil (nrm_same ?_)
      refine ⟨k + 1, ?_, ⟨rfl, trivial⟩, ⟨rfl, rfl, rfl, trivial⟩, hE9, ?_⟩
      · omega
      · skip
        exact ⟨by omega, by rw [List.take_succ_eq_append_getElem hk']; exact hj9⟩
    · skip
      refine ⟨_, rfl, ?_⟩
      refine wly_val rfl (ex_notb rfl) ?_
      refine wly_nil (nrm_then ?_)
      refine cw_true rfl ?_
      refine cw_ret (ret_block (ret_then (ret_then (ret_block (body_ret0 rfl ?_)))))
      exact .inr ⟨_, by rw [← List.take_succ_eq_append_getElem hk']; exact List.take_prefix _ _, hj9⟩
  · skip
    refine cw_exit (ex_then (ex_then (ex_here (body_end0 rfl ?_))))
    exact .inl (by rw [List.take_of_length_le (by omega)] at hj; exact hj)


theorem each_stops {n0 Bs : Nat} {w : World} {sv : Value} {l : List Smp} (hn0 : n0 ≤ w.heap.size) (hB : w.heap[Bs]? = some (.cells #[sv] 22 (0, 0))) (hs : RSl 3 RSmp (XB n0 w) w sv l) (hl : l.length ≤ 1000000000) :
    SeqStopsK Fence.wide 4 Tryd.prog 37 #[.pointer (some ⟨Bs, 0, none⟩)] (fun x : Smp => #[.agg (srow x).toArray]) (Below n0) (fun ys => ys = l) (fun pre => pre <+: l) l.length w := fun lp J Jx W hW hJ _ hY h0 => by
  have he : Evo [] w W := ⟨hW.os, hW.tape, hW.output, hW.size, fun b hb _ => hW.block b hb⟩
  have hs2 : RSl 3 RSmp (XB n0 W) W sv l := RSl.evo RSmp.pers (he.any _) (hs.fresh (by decide) RSmp.fresh (xb_step he.size))
  refine callsIn_wide.2 ((each1_ok (Nat.le_trans hn0 he.size) (he.blk0 hB) hs2 hl hJ hY h0).mono ?_)
  rintro e W' ⟨v, rfl, h | ⟨pre, h1, h2⟩⟩
  · exact ⟨⟨_, rfl⟩, .inl ⟨l, rfl, h⟩⟩
  · exact ⟨⟨_, rfl⟩, .inr ⟨pre, h1, h2⟩⟩

end Go.Proofs.YtclmkppiolfgbaaDoor
