/- For every list of samples the law ChunkGrows answers true and leaves the list as it is: with one sample more, what was packed stays as it was behind the first 17 bits, and at least two bits are added. Condition: the table math/bits.deBruijn64tab holds what the text of the program lays there (the card ties it). -/
import Derived.Test.YtclmkppiolfgbaaDoorKq
import Derived.Test.YtclmkppiolfgbaaDoorLu
namespace Go.Proofs.YtclmkppiolfgbaaDoor
open Go.Proofs
open Go.W Go.ChangeShapes Go.WideShapes Go.ChangeAt Go.RowKit
set_option linter.unusedVariables false
attribute [local irreducible] Decidable.decide
set_option linter.unusedSimpArgs false
set_option linter.unusedVariables false
theorem Tryd.goes11 : Goes Tryd.prog 11 := ⟨_, Tryd.func11, by kernel_rfl, by kernel_rfl⟩
theorem Tryd.goes15 : Goes Tryd.prog 15 := ⟨_, Tryd.func15, by kernel_rfl, by kernel_rfl⟩
theorem Tryd.goes16 : Goes Tryd.prog 16 := ⟨_, Tryd.func16, by kernel_rfl, by kernel_rfl⟩


theorem body_take {s : List Smp} {m : Nat} (hm : m < s.length) : body Stt.zero s = body Stt.zero (s.take m) ++ body (after Stt.zero (s.take m)) (s.drop m) := by
  have := body_append Stt.zero (s.take m) (s.drop m)
  rwa [List.take_append_drop] at this
theorem grow_len {s : List Smp} {m : Nat} (hm : m + 1 = s.length) : (form (s.take m)).length + 2 ≤ (form s).length := by
  have h2 := (body_len (s.drop m) (after Stt.zero (s.take m))).1
  simp only [form, List.length_append, num_length, body_take (s := s) (m := m) (by omega)]
  simp only [List.length_drop] at h2
  omega
theorem grow_bit {s : List Smp} {m i : Nat} (hm : m < s.length) (h1 : 17 ≤ i) (h2 : i < (form (s.take m)).length) : (form (s.take m)).getD i false = (form s).getD i false := by
  simp only [form, List.length_append, num_length] at h2
  simp only [form, List.getD_eq_getElem?_getD]
  rw [List.getElem?_append_right (by simpa using h1), List.getElem?_append_right (by simpa using h1), body_take hm]
  simp only [num_length]
  rw [List.getElem?_append_left (by omega)]
theorem grow_bits {s : List Smp} {a b : List Nat} {m i : Nat} (hm : m < s.length) (ha : Packs a (form (s.take m))) (hb : Packs b (form s)) (h1 : 17 ≤ i) (h2 : i + 7 < 8 * a.length) (h3 : a.length ≤ b.length) : bitAt a i = bitAt b i := by
  have la := ha.len
  have lb := hb.len
  rw [ha.bit i (by omega), hb.bit i (by omega), grow_bit hm h1 (by omega)]

theorem walk_ok {X : List Nat} {w : World} {v0 : Value} {l : List Smp} (hs : RSl 3 RSmp X w v0 l) (hl : l.length * 24 ≤ 140737488351232) (ht : Tab w) :
    Calls Tryd.prog 4 #[v0] w (Ret fun r w' => r = .bool true ∧ Evo [] w w') := by
  refine calls_of_cw (N := 77) Tryd.func4 rfl rfl rfl ?_
  refine cw_seq ?_
  refine cw_region ?_
  refine wl_val rfl (ex_assign rfl) ?_
  refine wl_nil (nrm_then ?_)
  refine cw_seq ?_
  refine cw_seq ?_
  refine cw_region ?_
  refine wl_call1 (vs := []) Tryd.goes11 rfl (alive_ok (Tab.evo ht (Evo.refl [] w) (by simp))) rfl ?_
  rintro _ w1 ⟨rfl, hw2⟩
  have hE3 := (Evo.refl [] w).then hw2
  refine wl_val rfl (ex_notb rfl) ?_
  refine wl_nil (nrm_then ?_)
  refine cw_false rfl ?_
  refine cw_skip (nrm_then ?_)
  refine cw_seq ?_
  refine cw_region ?_
  refine wl_val rfl (ex_move rfl) ?_
  refine wl_call1 (vs := [_]) Tryd.goes15 rfl (sorted_ok (RSl.evo RSmp.pers ((hE3).any _) hs) hl) rfl ?_
  rintro _ w4 ⟨a1, c1, ob1, s, rfl, hO1, hup, hso, hsl, hg1, hw5⟩
  have hE6 := hE3.then hw5
  have hs1 := own_smp (X := []) hO1 rfl hso (fun _ _ => by simp)
  have hc1 := hO1.le
  refine wl_val rfl (ex_assign rfl) ?_
  refine wl_nil (nrm_then ?_)
  refine cw_seq ?_
  refine cw_seq ?_
  refine cw_region ?_
  refine wl_val rfl (ex_move rfl) ?_
  refine wl_val rfl (ex_len_slice rfl Tryd.underlying22 rfl) ?_
  refine wl_val rfl (ex_eql rfl rfl) ?_
  refine wl_val rfl (ex_move rfl) ?_
  refine wl_split (t := 16) rfl (fun hs16 => ?_) (fun hs16 => ?_)
  · skip
    refine wl_no rfl rfl rfl rfl rfl rfl ?_
    refine wl_no rfl rfl rfl rfl rfl rfl ?_
    refine wl_no rfl rfl rfl rfl rfl rfl ?_
    refine wl_val rfl (ex_pick_t rfl rfl) ?_
    refine wl_nil (nrm_then ?_)
    refine cw_true rfl ?_
    refine cw_seq ?_
    refine cw_region ?_
    refine wl_val rfl (ex_assign rfl) ?_
    refine wl_nil (nrm_then ?_)
    refine cw_ret (ret_then (body_ret1 rfl rfl ?_))
    exact ⟨rfl, hE6⟩
  · skip
    refine wl_go rfl rfl rfl rfl ?_
    refine wl_val rfl (ex_move rfl) ?_
    refine wl_go rfl rfl rfl rfl ?_
    refine wl_val rfl (ex_len_slice rfl Tryd.underlying22 rfl) ?_
    refine wl_go rfl rfl rfl rfl ?_
    refine wl_val rfl (ex_gtr rfl rfl) ?_
    refine wl_val rfl (ex_pick_f rfl rfl) ?_
    refine wl_nil (nrm_then ?_)
    refine cw_if rfl (fun hc20 => ?_) (fun hc20 => ?_)
    · skip
      refine cw_seq ?_
      refine cw_region ?_
      refine wl_val rfl (ex_assign rfl) ?_
      refine wl_nil (nrm_then ?_)
      refine cw_ret (ret_then (body_ret1 rfl rfl ?_))
      exact ⟨rfl, hE6⟩
    · skip
      refine cw_skip (nrm_then ?_)
      refine cw_seq ?_
      refine cw_region ?_
      refine wl_val rfl (ex_move rfl) ?_
      refine wl_val rfl (ex_move rfl) ?_
      refine wl_val rfl (ex_len_slice rfl Tryd.underlying22 rfl) ?_
      refine wl_val rfl (ex_sub_i64 rfl rfl (by omega) (by omega)) ?_
      refine wl_val rfl (ex_slice (l := 0) (h := s.length - 1) (lv := none) (hv := some ((s.length : Nat) - 1 : Int)) rfl Tryd.underlying22 Tryd.size41 rfl rfl rfl (by simp; omega) (Nat.zero_le _) (by omega) (by omega)) ?_
      refine wl_call1 (vs := [_]) Tryd.goes13 rfl (pack_ok (ds := List.take (s.length - 1 - 0) s) (by have := rsl_sub (RSl.evo RSmp.pers (Evo.refl [] w4) hs1) (l := 0) (h := s.length - 1) (Nat.zero_le _) (by omega); rwa [List.drop_zero] at this) (by simp only [List.length_take]; omega) (ht.evo hE6 (by simp))) rfl ?_
      rintro _ w7 ⟨v2, bsa, ea, rfl, hs2, hP2, hw8⟩
      have hE9 := hE6.then hw8
      have hE10 := (Evo.refl [] w4).then hw8
      have hvs : Valid s := ⟨by omega, hup, hso⟩
      obtain ⟨rfl, hpa⟩ := pack_val (hvs.take _) hP2
      have hla := hpa.len
      have hs2' := hs2
      obtain ⟨a2, c2, rfl, -, -⟩ := hs2'
      refine wl_val rfl (ex_move rfl) ?_
      refine wl_val rfl (ex_extract rfl rfl) ?_
      refine wl_val rfl (ex_extract rfl rfl) ?_
      refine wl_val rfl (ex_assign rfl) ?_
      refine wl_val rfl (ex_assign rfl) ?_
      refine wl_nil (nrm_then ?_)
      refine cw_seq ?_
      refine cw_region ?_
      refine wl_val rfl (ex_move rfl) ?_
      refine wl_call1 (vs := [_]) Tryd.goes13 rfl (pack_ok (RSl.evo RSmp.pers hE10 hs1) (by omega) (ht.evo hE9 (by simp))) rfl ?_
      rintro _ w11 ⟨v3, bsb, eb, rfl, hs3, hP3, hw12⟩
      have hE13 := hE9.then hw12
      have hE14 := hE10.then hw12
      have hE15 := (Evo.refl [] w7).then hw12
      obtain ⟨rfl, hpb⟩ := pack_val hvs hP3
      have hlb := hpb.len
      have hgl := grow_len (s := s) (m := (s.length - 1 - 0)) (by omega)
      have hfl := form_len s
      have hf17 : 17 ≤ (form (s.take (s.length - 1 - 0))).length := by simp [form]
      have hs3' := hs3
      obtain ⟨a3, c3, rfl, -, -⟩ := hs3'
      refine wl_val rfl (ex_move rfl) ?_
      refine wl_val rfl (ex_extract rfl rfl) ?_
      refine wl_val rfl (ex_extract rfl rfl) ?_
      refine wl_val rfl (ex_assign rfl) ?_
      refine wl_val rfl (ex_assign rfl) ?_
      refine wl_nil (nrm_then ?_)
      refine cw_seq ?_
      refine cw_seq ?_
      refine cw_region ?_
      refine wl_val rfl (ex_move rfl) ?_
      refine wl_val rfl (ex_neq rfl rfl) ?_
      refine wl_val rfl (ex_move rfl) ?_
      refine wl_split (t := 37) rfl (fun hs37 => ?_) (fun hs37 => ?_)
      · skip
        exfalso; omega
      · skip
        refine wl_go rfl rfl rfl rfl ?_
        refine wl_val rfl (ex_move rfl) ?_
        refine wl_go rfl rfl rfl rfl ?_
        refine wl_val rfl (ex_neq rfl rfl) ?_
        refine wl_val rfl (ex_pick_f rfl rfl) ?_
        refine wl_val rfl (ex_move rfl) ?_
        refine wl_split (t := 41) rfl (fun hs41 => ?_) (fun hs41 => ?_)
        · skip
          exfalso; omega
        · skip
          refine wl_go rfl rfl rfl rfl ?_
          refine wl_val rfl (ex_move rfl) ?_
          refine wl_go rfl rfl rfl rfl ?_
          refine wl_val rfl (ex_len_slice rfl Tryd.underlying24 rfl) ?_
          refine wl_go rfl rfl rfl rfl ?_
          refine wl_val rfl (ex_move rfl) ?_
          refine wl_go rfl rfl rfl rfl ?_
          refine wl_val rfl (ex_len_slice rfl Tryd.underlying24 rfl) ?_
          refine wl_go rfl rfl rfl rfl ?_
          refine wl_val rfl (ex_gtr rfl rfl) ?_
          refine wl_val rfl (ex_pick_f rfl rfl) ?_
          refine wl_val rfl (ex_move rfl) ?_
          refine wl_split (t := 48) rfl (fun hs48 => ?_) (fun hs48 => ?_)
          · skip
            exfalso; omega
          · skip
            refine wl_go rfl rfl rfl rfl ?_
            refine wl_val rfl (ex_move rfl) ?_
            refine wl_go rfl rfl rfl rfl ?_
            refine wl_val rfl (ex_len_slice rfl Tryd.underlying24 rfl) ?_
            refine wl_go rfl rfl rfl rfl ?_
            refine wl_val rfl (ex_lss rfl rfl) ?_
            refine wl_val rfl (ex_pick_f rfl rfl) ?_
            refine wl_nil (nrm_then ?_)
            refine cw_if rfl (fun hc52 => ?_) (fun hc52 => ?_)
            · skip
              exfalso; omega
            · skip
              refine cw_skip (nrm_then ?_)
              refine cw_seq ?_
              refine cw_seq ?_
              refine cw_region ?_
              refine wl_val rfl (ex_assign rfl) ?_
              refine wl_nil (nrm_then ?_)
              refine cw_block ?_
              refine cw_loop (α := Nat) (17) (fun k => [(8, .int .i64 (k : Nat))]) [(4, _), (6, _)] (fun k wr => Evo [] w11 wr ∧ (17 ≤ k)) (fun k => 8 * bsa.length - k) ⟨rfl, trivial⟩ ⟨rfl, rfl, trivial⟩ ⟨Evo.refl _ _, Nat.le_refl _⟩ ?_
              rintro k wr16 ⟨hV17, hk1⟩
              show CW _ _ _ _ [(8, _), (4, _), (6, _)] _
              have hE18 := hE13.then hV17
              have hE19 := hE14.then hV17
              have hE20 := hE15.then hV17
              have hE21 := (Evo.refl [] w11).then hV17
              refine cw_seq ?_
              refine cw_seq ?_
              refine cw_region ?_
              refine wl_val rfl (ex_move rfl) ?_
              refine wl_val rfl (ex_move rfl) ?_
              refine wl_val rfl (ex_len_slice rfl Tryd.underlying24 rfl) ?_
              refine wl_val rfl (ex_mul_i64 rfl rfl (by omega) (by omega)) ?_
              refine wl_val rfl (ex_sub_i64 rfl rfl (by omega) (by omega)) ?_
              refine wl_val rfl (ex_lss rfl rfl) ?_
              refine wl_nil (nrm_then ?_)
              refine cw_if rfl (fun hc58 => ?_) (fun hc58 => ?_)
              · skip
                refine cw_skip (nrm_then ?_)
                refine cw_seq ?_
                refine cw_block ?_
                refine cw_seq ?_
                refine cw_region ?_
                refine wl_val rfl (ex_move rfl) ?_
                refine wl_val rfl (ex_move rfl) ?_
                refine wl_call1 (vs := [_, _]) Tryd.goes16 rfl (bit_ok (k := k) (RSl.evo RB.pers hE20 hs2) (by omega) (by omega)) rfl ?_
                rintro _ w22 ⟨rfl, hw23⟩
                have hE24 := hE18.then hw23
                have hE25 := hE19.then hw23
                have hE26 := hE20.then hw23
                have hE27 := hE21.then hw23
                have hE28 := hV17.then hw23
                refine wl_val rfl (ex_move rfl) ?_
                refine wl_val rfl (ex_move rfl) ?_
                refine wl_call1 (vs := [_, _]) Tryd.goes16 rfl (bit_ok (k := k) (RSl.evo RB.pers hE27 hs3) (by omega) (by omega)) rfl ?_
                rintro _ w29 ⟨rfl, hw30⟩
                have hE31 := hE24.then hw30
                have hE32 := hE25.then hw30
                have hE33 := hE26.then hw30
                have hE34 := hE27.then hw30
                have hE35 := hE28.then hw30
                refine wl_val rfl (ex_neq rfl rfl) ?_
                refine wl_nil (nrm_then ?_)
                refine cw_if rfl (fun hc67 => ?_) (fun hc67 => ?_)
                · skip
                  exact absurd (congrArg (fun b : Bool => ((b.toNat : Nat) : Int)) (grow_bits (by omega) hpa hpb hk1 (by omega) (by omega))) hc67
                · skip
                  refine cw_skip (nrm_block (nrm_then ?_))
                  refine cw_region ?_
                  refine wl_val rfl (ex_move rfl) ?_
                  refine wl_val rfl (ex_add_i64 rfl rfl (by omega) (by omega)) ?_
                  refine wl_val rfl (ex_assign rfl) ?_
                  refine wl_nil (nrm_then ?_)
                  refine ⟨k + 1, ?_, ⟨rfl, trivial⟩, ⟨rfl, rfl, trivial⟩, hE35, ?_⟩
                  · omega
                  · skip
                    exact (by omega)
              · skip
                refine cw_exit (ex_then (ex_then (ex_here (nrm_then ?_))))
                refine cw_seq ?_
                refine cw_region ?_
                refine wl_val rfl (ex_move rfl) ?_
                refine wl_val rfl (ex_len_slice rfl Tryd.underlying24 rfl) ?_
                refine wl_val rfl (ex_mul_i64 rfl rfl (by omega) (by omega)) ?_
                refine wl_val rfl (ex_move rfl) ?_
                refine wl_val rfl (ex_len_slice rfl Tryd.underlying24 rfl) ?_
                refine wl_val rfl (ex_mul_i64 rfl rfl (by omega) (by omega)) ?_
                refine wl_val rfl (ex_sub_i64 rfl rfl (by omega) (by omega)) ?_
                refine wl_val rfl (ex_add_i64 rfl rfl (by omega) (by omega)) ?_
                refine wl_val rfl (ex_geq rfl rfl) ?_
                refine wl_val rfl (ex_assign rfl) ?_
                refine wl_nil (nrm_then ?_)
                refine cw_ret (body_ret1 rfl rfl ?_)
                exact ⟨by rw [decide_eq_true (by omega)], hE18⟩

set_option maxRecDepth 100000 in
theorem contract (H : Type) (enc : TypeId × Value → H) (W : World) (base : Nat) (args : Array Value) (ds gs : List (DataW H)) (before : List MemPlace)
    (hval : ∀ (j : Nat) t v, Tryd.f4.params[j]? = some t → args[j]? = some v → Value.okWide Tryd.prog W .any base t v)
    (hW : DataW.Whole enc Tryd.prog Tryd.f4.params.toList Rows.chunkGrowsSpec.vars false W args.toList ds gs before)
    (hsz : (DataW.weightsEach Tryd.prog (Tryd.f4.params.toList ++ Rows.chunkGrowsSpec.plain.varTypes Tryd.prog) (ds ++ gs)).all (· ≤ reachBytes) = true) (hL : laidMetH Tryd.prog laidL W) :
    Calls Tryd.prog 4 args W fun e W' => ∃ v, e = .returned v ∧ Rows.chunkGrowsSpec.post enc Tryd.prog Tryd.f4 false true false false W args v W' := by
  have hW' := hW
  obtain ⟨p, q, hA0, hV, rfl, hfz, hnd⟩ := hW
  have hA : DataW.TrodAll enc Tryd.prog W 0 (fun _ => true) true Tryd.f4.params.toList args.toList ds p := hA0
  rw [Tryd.params4] at hA hval hsz
  obtain ⟨v0, vs0, d0, ds0, p0, q0, hargs0, rfl, rfl, h0, r0⟩ := trodAll_cons hA
  obtain ⟨hn1, rfl, rfl⟩ := trodAll_nil r0
  subst hn1
  obtain rfl : args = #[v0] := by cases args; simp_all
  obtain ⟨rfl, rfl⟩ := trodVars_none hV
  have k0 := h0
  obtain ⟨l0, hs0, hb0⟩ := came Tryd.underlying22 opens22 (hval 0 22 _ rfl rfl) h0 (fun n hn => by have := List.all_eq_true.1 hsz n (DataW.weights_mem_each (j := 0) rfl rfl n hn); simpa using this)
  have hT : Tab W := table hL
  refine (walk_ok hs0 hb0 hT).mono fun e W' ⟨v, he, hv, bel⟩ => ?_
  subst he hv
  exact ⟨_, rfl, _, _, _, [], _, [], hW', trodAll_mk1 (shut_bool Tryd.underlying4 _), (trodAll_cons_mk (Below.trod laidOut (by kernel_rfl) (of_decide_eq_true (by kernel_rfl)) k0 bel.below (trod_lt k0)) trodAll_mk0), rfl, bel.below.frame _, fun h => by cases h⟩
theorem laid_met (os : Os) : laidMet Tryd.prog laidL ((laidWorld os #[]).forCall (fun _ _ => 0) ⟨#[], #[.slice none 0 0], []⟩).memory :=
  laidMet_of_run' 8 (by kernel_rfl) (by kernel_rfl)
theorem reads (os : Os) {H : Type} (enc : TypeId × Value → H) : ∃ places, DataW.whole enc Tryd.prog ((laidWorld os #[]).forCall (fun _ _ => 0) ⟨#[], #[.slice none 0 0], []⟩).memory Tryd.f4.params.toList Rows.chunkGrowsSpec.vars false (#[.slice none 0 0] : Array Value).toList 8 = some ([.nil], [], places) :=
  ⟨[], by kernel_rfl⟩
set_option maxRecDepth 100000 in
theorem lifted (os : Os) (started : os.Started) (H : Type) (enc : TypeId × Value → H) (F : Stop.Interp) :
    ReturnsInHanded {} Tryd.checked os 4 .any ((OpenSpec.ofChange Rows.chunkGrowsSpec).preRow enc Tryd.prog Tryd.f4 Rows.chunkGrowsRow.domain false Rows.chunkGrowsRow.laid) (((OpenSpec.ofChange Rows.chunkGrowsSpec).at F).post enc Tryd.prog Tryd.f4 false true false false) := by
  obtain ⟨places, hx⟩ := reads os enc
  refine returnsInHanded_of_row (C := Tryd.checked) (s := OpenSpec.ofChange Rows.chunkGrowsSpec) own started (by kernel_rfl) Tryd.func4
    (witness_row_at (enc := enc) (C := Tryd.checked) false (laidWorld os #[]) #[.slice none 0 0] rfl (by kernel_rfl) (by kernel_rfl) (by kernel_rfl)
      (OpenSpec.preRow_of_cond 8 hx (by kernel_rfl) (fun k hk => by cases hk) (by kernel_rfl) (laid_met os))) ?_
  intro W base args ds gs before hval hW _ _ hsz hL _ _
  exact contract H enc W base args ds gs before hval hW hsz hL
theorem said : Rows.ChunkGrowsSaid :=
  OpenClaim.holds_of_cond 4 Tryd.f4 rfl rfl rfl rfl rfl rfl rfl ⟨rfl, rfl, rfl, rfl, rfl⟩ rfl rfl rfl rfl rfl (by kernel_rfl) Tryd.func4 (by kernel_rfl)
    (of_decide_eq_true (by kernel_rfl)) (by unfold Func.isWrapper; first | (rw [if_pos (by decide +kernel)]; kernel_rfl) | (rw [if_neg (by decide +kernel)]; exact ⟨rfl, rfl⟩))
    (fun os started H enc _ F => by rw [OpenClaim.pre_eq_preRow]; exact lifted os started H enc F)
theorem plain (f : FuncId) (fn : Func) (hf : Tryd.pinned.checked.prog.funcNamed "weir/weirlaw17.ChunkGrows" = some f) (hfn : Tryd.pinned.checked.prog.funcs[f]? = some fn) :
    false = Tryd.pinned.checked.prog.looks [] ∧ ∀ (j : Nat) t, fn.params[j]? = some t → Tryd.pinned.checked.prog.wantsStandIn t = false := by
  obtain rfl : f = 4 := Option.some.inj ((show Tryd.prog.funcNamed "weir/weirlaw17.ChunkGrows" = some 4 by kernel_rfl).symm.trans hf) |>.symm
  obtain rfl : fn = Tryd.f4 := (Option.some.inj (Tryd.func4.symm.trans hfn)).symm
  refine ⟨looks_off, fun j t ht => ?_⟩
  rw [Tryd.params4] at ht
  rcases j with _ | j
  · obtain rfl : t = 22 := by simpa using ht.symm
    exact (show Tryd.prog.wantsStandIn 22 = false by kernel_rfl)
  · simp at ht

theorem chunkGrows_card : Rows.ChunkGrowsCardSaid :=
  Claim7.holds_tied_plain_at .later [] _ _ _ _ said (fun _ h => by cases h) (by kernel_rfl) (fun _ h => by cases h) chunkGrows_row_tie rfl ⟨rfl, rfl⟩ (by kernel_rfl) rfl plain (by kernel_rfl)
#print axioms chunkGrows_card

end Go.Proofs.YtclmkppiolfgbaaDoor
