/- For all bytes and bounds the law ChunkReads answers true and leaves the bytes as they are: Unpack, Count and Between answer what the reference answers. Condition: the table math/bits.deBruijn64tab holds what the text of the program lays there (the card ties it). -/
import Derived.Test.YtclmkppiolfgbaaDoorKq
import Derived.Test.YtclmkppiolfgbaaDoorLs
namespace Go.Proofs.YtclmkppiolfgbaaDoor
open Go.Proofs
open Go.W Go.ChangeShapes Go.WideShapes Go.ChangeAt Go.RowKit
set_option linter.unusedVariables false
attribute [local irreducible] Decidable.decide
set_option linter.unusedSimpArgs false
set_option linter.unusedVariables false
theorem Tryd.goes11 : Goes Tryd.prog 11 := ⟨_, Tryd.func11, by kernel_rfl, by kernel_rfl⟩
theorem Tryd.goes19 : Goes Tryd.prog 19 := ⟨_, Tryd.func19, by kernel_rfl, by kernel_rfl⟩
theorem Tryd.goes20 : Goes Tryd.prog 20 := ⟨_, Tryd.func20, by kernel_rfl, by kernel_rfl⟩
theorem Tryd.goes27 : Goes Tryd.prog 27 := ⟨_, Tryd.func27, by kernel_rfl, by kernel_rfl⟩
theorem Tryd.goes30 : Goes Tryd.prog 30 := ⟨_, Tryd.func30, by kernel_rfl, by kernel_rfl⟩

theorem walk_ok {X : List Nat} {w : World} {v0 : Value} {bs : List Nat} {after upto : Int} (hs : RSl 1 RB X w v0 bs) (hl : bs.length * 1 ≤ 140737488351232) (ht : Tab w) :
    Calls Tryd.prog 10 #[v0, .int .i64 after, .int .i64 upto] w (Ret fun r w' => r = .bool true ∧ Evo [] w w') := by
  refine calls_of_cw (N := 77) Tryd.func10 rfl rfl rfl ?_
  refine cw_seq ?_
  refine cw_region ?_
  refine wl_val rfl (ex_assign rfl) ?_
  refine wl_nil (nrm_then ?_)
  refine cw_seq ?_
  refine cw_seq ?_
  refine cw_region ?_
  refine wl_call1 (vs := []) Tryd.goes11 rfl (alive_ok (Tab.evo ht (Evo.refl [] w) (by simp))) rfl ?_
  rintro _ w1 ⟨rfl, hw2⟩
  have hE3 := (Evo.refl [] w).then hw2
  refine wl_val rfl (ex_notb rfl) ?_
  refine wl_nil (nrm_then ?_)
  refine cw_false rfl ?_
  refine cw_skip (nrm_then ?_)
  refine cw_seq ?_
  refine cw_region ?_
  refine wl_val rfl (ex_move rfl) ?_
  refine wl_call1 (vs := [_]) Tryd.goes29 rfl (refUnpack_ok (RSl.evo RB.pers ((hE3).any _) hs) (by omega)) rfl ?_
  rintro _ w4 ⟨v1, o1, e1, rfl, hs1, hU1, hw5⟩
  have hE6 := hE3.then hw5
  have hs1' := hs1
  obtain ⟨a1, c1, rfl, -, -⟩ := hs1'
  have hul := upk_len hU1
  refine wl_val rfl (ex_move rfl) ?_
  refine wl_val rfl (ex_extract rfl rfl) ?_
  refine wl_val rfl (ex_extract rfl rfl) ?_
  refine wl_val rfl (ex_assign rfl) ?_
  refine wl_val rfl (ex_assign rfl) ?_
  refine wl_nil (nrm_then ?_)
  refine cw_seq ?_
  refine cw_region ?_
  refine wl_val rfl (ex_move rfl) ?_
  refine wl_val rfl (ex_move rfl) ?_
  refine wl_val rfl (ex_move rfl) ?_
  refine wl_call1 (vs := [_, _, _]) Tryd.goes30 rfl (refBetween_ok after upto (RSl.evo RB.pers ((hE6).any _) hs) (by omega)) rfl ?_
  rintro _ w7 ⟨v2, o2, e2, rfl, hU2, hs2, hw8⟩
  have hE9 := hE6.then hw8
  have hE10 := (Evo.refl [] w4).then hw8
  obtain ⟨rfl, rfl⟩ := hU1.uniq hU2
  refine wl_val rfl (ex_move rfl) ?_
  refine wl_val rfl (ex_extract rfl rfl) ?_
  refine wl_val rfl (ex_extract rfl rfl) ?_
  refine wl_val rfl (ex_assign rfl) ?_
  refine wl_val rfl (ex_assign rfl) ?_
  refine wl_nil (nrm_then ?_)
  refine cw_seq ?_
  refine cw_region ?_
  refine wl_val rfl (ex_move rfl) ?_
  refine wl_call1 (vs := [_]) Tryd.goes17 rfl (unpack_ok (RSl.evo RB.pers ((hE9).any _) hs) (by omega) (ht.evo hE9 (by simp))) rfl ?_
  rintro _ w11 ⟨v3, o3, e3, rfl, hs3, hU3, hw12⟩
  have hE13 := hE9.then hw12
  have hE14 := hE10.then hw12
  have hE15 := (Evo.refl [] w7).then hw12
  obtain ⟨rfl, rfl⟩ := hU1.uniq hU3
  refine wl_val rfl (ex_move rfl) ?_
  refine wl_val rfl (ex_extract rfl rfl) ?_
  refine wl_val rfl (ex_extract rfl rfl) ?_
  refine wl_val rfl (ex_assign rfl) ?_
  refine wl_val rfl (ex_assign rfl) ?_
  refine wl_nil (nrm_then ?_)
  refine cw_seq ?_
  refine cw_region ?_
  refine wl_val rfl (ex_move rfl) ?_
  refine wl_call1 (vs := [_]) Tryd.goes19 rfl (count_ok (RSl.evo RB.pers ((hE13).any _) hs) (by omega) (ht.evo hE13 (by simp))) rfl ?_
  rintro _ w16 ⟨o4, e4, rfl, hU4, hw17⟩
  have hE18 := hE13.then hw17
  have hE19 := hE14.then hw17
  have hE20 := hE15.then hw17
  have hE21 := (Evo.refl [] w11).then hw17
  obtain ⟨rfl, rfl⟩ := hU1.uniq hU4
  refine wl_val rfl (ex_move rfl) ?_
  refine wl_val rfl (ex_extract rfl rfl) ?_
  refine wl_val rfl (ex_extract rfl rfl) ?_
  refine wl_val rfl (ex_assign rfl) ?_
  refine wl_val rfl (ex_assign rfl) ?_
  refine wl_nil (nrm_then ?_)
  refine cw_seq ?_
  refine cw_region ?_
  refine wl_val rfl (ex_move rfl) ?_
  refine wl_val rfl (ex_move rfl) ?_
  refine wl_val rfl (ex_move rfl) ?_
  refine wl_call1 (vs := [_, _, _]) Tryd.goes27 rfl (between_ok after upto (RSl.evo RB.pers ((hE18).any _) hs) (by omega) (ht.evo hE18 (by simp))) rfl ?_
  rintro _ w22 ⟨v5, o5, e5, rfl, hU5, hs5, hw23⟩
  have hE24 := hE18.then hw23
  have hE25 := hE19.then hw23
  have hE26 := hE20.then hw23
  have hE27 := hE21.then hw23
  obtain ⟨rfl, rfl⟩ := hU1.uniq hU5
  have hbl := betw_len (after := after) (upto := upto) (l := o1) o1.length
  rw [List.take_length] at hbl
  refine wl_val rfl (ex_move rfl) ?_
  refine wl_val rfl (ex_extract rfl rfl) ?_
  refine wl_val rfl (ex_extract rfl rfl) ?_
  refine wl_val rfl (ex_assign rfl) ?_
  refine wl_val rfl (ex_assign rfl) ?_
  refine wl_nil (nrm_then ?_)
  refine cw_seq ?_
  refine cw_region ?_
  refine wl_val rfl (ex_move rfl) ?_
  refine wl_val rfl (ex_move rfl) ?_
  refine wl_val rfl (ex_eql rfl rfl) ?_
  refine wl_val rfl (ex_move rfl) ?_
  refine wl_split (t := 51) rfl (fun hs51 => ?_) (fun hs51 => ?_)
  · skip
    refine wl_go rfl rfl rfl rfl ?_
    refine wl_val rfl (ex_move rfl) ?_
    refine wl_go rfl rfl rfl rfl ?_
    refine wl_val rfl (ex_move rfl) ?_
    refine wl_go rfl rfl rfl rfl ?_
    refine wl_val rfl (ex_eql rfl rfl) ?_
    refine wl_val rfl (ex_pick_t rfl rfl) ?_
    refine wl_val rfl (ex_move rfl) ?_
    refine wl_split (t := 56) rfl (fun hs56 => ?_) (fun hs56 => ?_)
    · skip
      refine wl_go rfl rfl rfl rfl ?_
      refine wl_val rfl (ex_move rfl) ?_
      refine wl_go rfl rfl rfl rfl ?_
      refine wl_val rfl (ex_move rfl) ?_
      refine wl_go rfl rfl rfl rfl ?_
      refine wl_val rfl (ex_eql rfl rfl) ?_
      refine wl_val rfl (ex_pick_t rfl rfl) ?_
      refine wl_val rfl (ex_move rfl) ?_
      refine wl_split (t := 61) rfl (fun hs61 => ?_) (fun hs61 => ?_)
      · skip
        refine wl_go rfl rfl rfl rfl ?_
        refine wl_val rfl (ex_move rfl) ?_
        refine wl_go rfl rfl rfl rfl ?_
        refine wl_val rfl (ex_move rfl) ?_
        refine wl_go rfl rfl rfl rfl ?_
        refine wl_call1 (vs := [_, _, _]) Tryd.goes20 rfl (alike_ok (RSl.evo RSmp.pers hE27 hs3) (RSl.evo RSmp.pers hE25 hs1) (Alike.refl _ _) (by omega)) rfl ?_
        rintro _ w28 ⟨rfl, hw29⟩
        have hE30 := hE24.then hw29
        have hE31 := hE25.then hw29
        have hE32 := hE26.then hw29
        have hE33 := hE27.then hw29
        have hE34 := (Evo.refl [] w22).then hw29
        refine wl_val rfl (ex_pick_t rfl rfl) ?_
        refine wl_val rfl (ex_move rfl) ?_
        refine wl_go rfl rfl rfl rfl ?_
        refine wl_val rfl (ex_move rfl) ?_
        refine wl_go rfl rfl rfl rfl ?_
        refine wl_val rfl (ex_move rfl) ?_
        refine wl_go rfl rfl rfl rfl ?_
        refine wl_val rfl (ex_len_slice rfl Tryd.underlying22 rfl) ?_
        refine wl_go rfl rfl rfl rfl ?_
        refine wl_val rfl (ex_eql rfl rfl) ?_
        refine wl_val rfl (ex_pick_t rfl rfl) ?_
        refine wl_val rfl (ex_move rfl) ?_
        refine wl_split (t := 72) rfl (fun hs72 => ?_) (fun hs72 => ?_)
        · skip
          refine wl_go rfl rfl rfl rfl ?_
          refine wl_val rfl (ex_move rfl) ?_
          refine wl_go rfl rfl rfl rfl ?_
          refine wl_val rfl (ex_move rfl) ?_
          refine wl_go rfl rfl rfl rfl ?_
          refine wl_call1 (vs := [_, _, _]) Tryd.goes20 rfl (alike_ok (RSl.evo RSmp.pers hE34 hs5) (RSl.evo RSmp.pers hE32 hs2) (Alike.refl _ _) (by omega)) rfl ?_
          rintro _ w35 ⟨rfl, hw36⟩
          have hE37 := hE30.then hw36
          have hE38 := hE31.then hw36
          have hE39 := hE32.then hw36
          have hE40 := hE33.then hw36
          have hE41 := hE34.then hw36
          have hE42 := (Evo.refl [] w28).then hw36
          refine wl_val rfl (ex_pick_t rfl rfl) ?_
          refine wl_val rfl (ex_assign rfl) ?_
          refine wl_nil (nrm_then ?_)
          refine cw_ret (body_ret1 rfl rfl ?_)
          exact ⟨rfl, hE37⟩
        · skip
          refine wl_no rfl rfl rfl rfl rfl rfl ?_
          refine wl_no rfl rfl rfl rfl rfl rfl ?_
          refine wl_no rfl rfl rfl rfl rfl rfl ?_
          refine wl_val rfl (ex_pick_f rfl rfl) ?_
          refine wl_val rfl (ex_assign rfl) ?_
          refine wl_nil (nrm_then ?_)
          refine cw_ret (body_ret1 rfl rfl ?_)
          exact absurd rfl hs72
      · skip
        refine wl_no rfl rfl rfl rfl rfl rfl ?_
        refine wl_no rfl rfl rfl rfl rfl rfl ?_
        refine wl_no rfl rfl rfl rfl rfl rfl ?_
        refine wl_val rfl (ex_pick_f rfl rfl) ?_
        refine wl_val rfl (ex_move rfl) ?_
        refine wl_no rfl rfl rfl rfl rfl rfl ?_
        refine wl_no rfl rfl rfl rfl rfl rfl ?_
        refine wl_no rfl rfl rfl rfl rfl rfl ?_
        refine wl_no rfl rfl rfl rfl rfl rfl ?_
        refine wl_val rfl (ex_pick_f rfl rfl) ?_
        refine wl_val rfl (ex_move rfl) ?_
        refine wl_no rfl rfl rfl rfl rfl rfl ?_
        refine wl_no rfl rfl rfl rfl rfl rfl ?_
        refine wl_no rfl rfl rfl rfl rfl rfl ?_
        refine wl_val rfl (ex_pick_f rfl rfl) ?_
        refine wl_val rfl (ex_assign rfl) ?_
        refine wl_nil (nrm_then ?_)
        refine cw_ret (body_ret1 rfl rfl ?_)
        exact absurd rfl hs61
    · skip
      refine wl_no rfl rfl rfl rfl rfl rfl ?_
      refine wl_no rfl rfl rfl rfl rfl rfl ?_
      refine wl_no rfl rfl rfl rfl rfl rfl ?_
      refine wl_val rfl (ex_pick_f rfl rfl) ?_
      refine wl_val rfl (ex_move rfl) ?_
      refine wl_no rfl rfl rfl rfl rfl rfl ?_
      refine wl_no rfl rfl rfl rfl rfl rfl ?_
      refine wl_no rfl rfl rfl rfl rfl rfl ?_
      refine wl_val rfl (ex_pick_f rfl rfl) ?_
      refine wl_val rfl (ex_move rfl) ?_
      refine wl_no rfl rfl rfl rfl rfl rfl ?_
      refine wl_no rfl rfl rfl rfl rfl rfl ?_
      refine wl_no rfl rfl rfl rfl rfl rfl ?_
      refine wl_no rfl rfl rfl rfl rfl rfl ?_
      refine wl_val rfl (ex_pick_f rfl rfl) ?_
      refine wl_val rfl (ex_move rfl) ?_
      refine wl_no rfl rfl rfl rfl rfl rfl ?_
      refine wl_no rfl rfl rfl rfl rfl rfl ?_
      refine wl_no rfl rfl rfl rfl rfl rfl ?_
      refine wl_val rfl (ex_pick_f rfl rfl) ?_
      refine wl_val rfl (ex_assign rfl) ?_
      refine wl_nil (nrm_then ?_)
      refine cw_ret (body_ret1 rfl rfl ?_)
      exact absurd rfl hs56
  · skip
    refine wl_no rfl rfl rfl rfl rfl rfl ?_
    refine wl_no rfl rfl rfl rfl rfl rfl ?_
    refine wl_no rfl rfl rfl rfl rfl rfl ?_
    refine wl_val rfl (ex_pick_f rfl rfl) ?_
    refine wl_val rfl (ex_move rfl) ?_
    refine wl_no rfl rfl rfl rfl rfl rfl ?_
    refine wl_no rfl rfl rfl rfl rfl rfl ?_
    refine wl_no rfl rfl rfl rfl rfl rfl ?_
    refine wl_val rfl (ex_pick_f rfl rfl) ?_
    refine wl_val rfl (ex_move rfl) ?_
    refine wl_no rfl rfl rfl rfl rfl rfl ?_
    refine wl_no rfl rfl rfl rfl rfl rfl ?_
    refine wl_no rfl rfl rfl rfl rfl rfl ?_
    refine wl_val rfl (ex_pick_f rfl rfl) ?_
    refine wl_val rfl (ex_move rfl) ?_
    refine wl_no rfl rfl rfl rfl rfl rfl ?_
    refine wl_no rfl rfl rfl rfl rfl rfl ?_
    refine wl_no rfl rfl rfl rfl rfl rfl ?_
    refine wl_no rfl rfl rfl rfl rfl rfl ?_
    refine wl_val rfl (ex_pick_f rfl rfl) ?_
    refine wl_val rfl (ex_move rfl) ?_
    refine wl_no rfl rfl rfl rfl rfl rfl ?_
    refine wl_no rfl rfl rfl rfl rfl rfl ?_
    refine wl_no rfl rfl rfl rfl rfl rfl ?_
    refine wl_val rfl (ex_pick_f rfl rfl) ?_
    refine wl_val rfl (ex_assign rfl) ?_
    refine wl_nil (nrm_then ?_)
    refine cw_ret (body_ret1 rfl rfl ?_)
    exact absurd rfl hs51

set_option maxRecDepth 100000 in
theorem contract (H : Type) (enc : TypeId × Value → H) (W : World) (base : Nat) (args : Array Value) (ds gs : List (DataW H)) (before : List MemPlace)
    (hval : ∀ (j : Nat) t v, Tryd.f10.params[j]? = some t → args[j]? = some v → Value.okWide Tryd.prog W .any base t v)
    (hW : DataW.Whole enc Tryd.prog Tryd.f10.params.toList Rows.chunkReadsSpec.vars false W args.toList ds gs before)
    (hsz : (DataW.weightsEach Tryd.prog (Tryd.f10.params.toList ++ Rows.chunkReadsSpec.plain.varTypes Tryd.prog) (ds ++ gs)).all (· ≤ reachBytes) = true) (hL : laidMetH Tryd.prog laidL W) :
    Calls Tryd.prog 10 args W fun e W' => ∃ v, e = .returned v ∧ Rows.chunkReadsSpec.post enc Tryd.prog Tryd.f10 false true false false W args v W' := by
  have hW' := hW
  obtain ⟨p, q, hA0, hV, rfl, hfz, hnd⟩ := hW
  have hA : DataW.TrodAll enc Tryd.prog W 0 (fun _ => true) true Tryd.f10.params.toList args.toList ds p := hA0
  rw [Tryd.params10] at hA hval hsz
  obtain ⟨v0, vs0, d0, ds0, p0, q0, hargs0, rfl, rfl, h0, r0⟩ := trodAll_cons hA
  obtain ⟨v1, vs1, d1, ds1, p1, q1, hargs1, rfl, rfl, h1, r1⟩ := trodAll_cons r0
  obtain ⟨v2, vs2, d2, ds2, p2, q2, hargs2, rfl, rfl, h2, r2⟩ := trodAll_cons r1
  obtain ⟨hn1, rfl, rfl⟩ := trodAll_nil r2
  subst hn1
  subst hargs2
  subst hargs1
  obtain rfl : args = #[v0, v1, v2] := by cases args; simp_all
  obtain ⟨rfl, rfl⟩ := trodVars_none hV
  have k0 := h0
  have k1 := h1
  have k2 := h2
  obtain ⟨l0, hs0, hb0⟩ := came Tryd.underlying24 opens24 (hval 0 24 _ rfl rfl) h0 (fun n hn => by have := List.all_eq_true.1 hsz n (DataW.weights_mem_each (j := 0) rfl rfl n hn); simpa using this)
  obtain ⟨n1, rfl, rfl, rfl, hr1⟩ := open_int Tryd.underlying2 (hval 1 2 _ rfl rfl) h1
  obtain ⟨n2, rfl, rfl, rfl, hr2⟩ := open_int Tryd.underlying2 (hval 2 2 _ rfl rfl) h2
  have hT : Tab W := table hL
  refine (walk_ok (after := n1) (upto := n2) hs0 hb0 hT).mono fun e W' ⟨v, he, hv, bel⟩ => ?_
  subst he hv
  exact ⟨_, rfl, _, _, _, [], _, [], hW', trodAll_mk1 (shut_bool Tryd.underlying4 _), (trodAll_cons_mk (Below.trod laidOut (by kernel_rfl) (of_decide_eq_true (by kernel_rfl)) k0 bel.below (trod_lt k0)) (trodAll_cons_mk (Below.trod laidOut (by kernel_rfl) (of_decide_eq_true (by kernel_rfl)) k1 bel.below (trod_lt k1)) (trodAll_cons_mk (Below.trod laidOut (by kernel_rfl) (of_decide_eq_true (by kernel_rfl)) k2 bel.below (trod_lt k2)) trodAll_mk0))), rfl, bel.below.frame _, fun h => by cases h⟩
theorem laid_met (os : Os) : laidMet Tryd.prog laidL ((laidWorld os #[]).forCall (fun _ _ => 0) ⟨#[], #[.slice none 0 0, .int .i64 0, .int .i64 0], []⟩).memory :=
  laidMet_of_run' 8 (by kernel_rfl) (by kernel_rfl)
theorem reads (os : Os) {H : Type} (enc : TypeId × Value → H) : ∃ places, DataW.whole enc Tryd.prog ((laidWorld os #[]).forCall (fun _ _ => 0) ⟨#[], #[.slice none 0 0, .int .i64 0, .int .i64 0], []⟩).memory Tryd.f10.params.toList Rows.chunkReadsSpec.vars false (#[.slice none 0 0, .int .i64 0, .int .i64 0] : Array Value).toList 8 = some ([.nil, .lit (.int .i64 0), .lit (.int .i64 0)], [], places) :=
  ⟨[], by kernel_rfl⟩
set_option maxRecDepth 100000 in
theorem lifted (os : Os) (started : os.Started) (H : Type) (enc : TypeId × Value → H) (F : Stop.Interp) :
    ReturnsInHanded {} Tryd.checked os 10 .any ((OpenSpec.ofChange Rows.chunkReadsSpec).preRow enc Tryd.prog Tryd.f10 Rows.chunkReadsRow.domain false Rows.chunkReadsRow.laid) (((OpenSpec.ofChange Rows.chunkReadsSpec).at F).post enc Tryd.prog Tryd.f10 false true false false) := by
  obtain ⟨places, hx⟩ := reads os enc
  refine returnsInHanded_of_row (C := Tryd.checked) (s := OpenSpec.ofChange Rows.chunkReadsSpec) own started (by kernel_rfl) Tryd.func10
    (witness_row_at (enc := enc) (C := Tryd.checked) false (laidWorld os #[]) #[.slice none 0 0, .int .i64 0, .int .i64 0] rfl (by kernel_rfl) (by kernel_rfl) (by kernel_rfl)
      (OpenSpec.preRow_of_cond 8 hx (by kernel_rfl) (fun k hk => by cases hk) (by kernel_rfl) (laid_met os))) ?_
  intro W base args ds gs before hval hW _ _ hsz hL _ _
  exact contract H enc W base args ds gs before hval hW hsz hL
theorem said : Rows.ChunkReadsSaid :=
  OpenClaim.holds_of_cond 10 Tryd.f10 rfl rfl rfl rfl rfl rfl rfl ⟨rfl, rfl, rfl, rfl, rfl⟩ rfl rfl rfl rfl rfl (by kernel_rfl) Tryd.func10 (by kernel_rfl)
    (of_decide_eq_true (by kernel_rfl)) (by unfold Func.isWrapper; first | (rw [if_pos (by decide +kernel)]; kernel_rfl) | (rw [if_neg (by decide +kernel)]; exact ⟨rfl, rfl⟩))
    (fun os started H enc _ F => by rw [OpenClaim.pre_eq_preRow]; exact lifted os started H enc F)
theorem plain (f : FuncId) (fn : Func) (hf : Tryd.pinned.checked.prog.funcNamed "weir/weirlaw17.ChunkReads" = some f) (hfn : Tryd.pinned.checked.prog.funcs[f]? = some fn) :
    false = Tryd.pinned.checked.prog.looks [] ∧ ∀ (j : Nat) t, fn.params[j]? = some t → Tryd.pinned.checked.prog.wantsStandIn t = false := by
  obtain rfl : f = 10 := Option.some.inj ((show Tryd.prog.funcNamed "weir/weirlaw17.ChunkReads" = some 10 by kernel_rfl).symm.trans hf) |>.symm
  obtain rfl : fn = Tryd.f10 := (Option.some.inj (Tryd.func10.symm.trans hfn)).symm
  refine ⟨looks_off, fun j t ht => ?_⟩
  rw [Tryd.params10] at ht
  rcases j with _ | _ | _ | j
  · obtain rfl : t = 24 := by simpa using ht.symm
    exact (show Tryd.prog.wantsStandIn 24 = false by kernel_rfl)
  · obtain rfl : t = 2 := by simpa using ht.symm
    exact (show Tryd.prog.wantsStandIn 2 = false by kernel_rfl)
  · obtain rfl : t = 2 := by simpa using ht.symm
    exact (show Tryd.prog.wantsStandIn 2 = false by kernel_rfl)
  · simp at ht

theorem chunkReads_card : Rows.ChunkReadsCardSaid :=
  Claim7.holds_tied_plain_at .later [] _ _ _ _ said (fun _ h => by cases h) (by kernel_rfl) (fun _ h => by cases h) chunkReads_row_tie rfl ⟨rfl, rfl⟩ (by kernel_rfl) rfl plain (by kernel_rfl)
#print axioms chunkReads_card

end Go.Proofs.YtclmkppiolfgbaaDoor
