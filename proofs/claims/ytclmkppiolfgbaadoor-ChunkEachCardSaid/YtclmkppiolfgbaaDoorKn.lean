import Derived.Test.YtclmkppiolfgbaaDoorKm
namespace Go.Proofs.YtclmkppiolfgbaaDoor
open Go.Proofs
open Go.W
attribute [local irreducible] Decidable.decide
set_option linter.unusedSimpArgs false
set_option linter.unusedVariables false
theorem Tryd.build85 : Build Tryd.prog 85 #[(0, 2), (2, 7)] #[.slice none 0 0, .int .i64 0, .int .i64 0, .int .i64 0, .int .u64 0, .int .u64 0, .bool false, .int .i64 0, .int .i64 0] := ⟨_, .agg #[.slice none 0 0, .int .i64 0, .int .i64 0, .int .i64 0, .int .u64 0, .int .u64 0, .bool false, .int .i64 0, .int .i64 0], Tryd.underlying85, by kernel_rfl, rfl, fun w => by kernel_rfl⟩
theorem Tryd.fld85_0 : fieldB Tryd.prog 85 0 = some 0 := by kernel_rfl
theorem Tryd.fld85_1 : fieldB Tryd.prog 85 1 = some 2 := by kernel_rfl


section
variable {P : Program} {σ : Env} {w : World} {dst : Option Nat} {T : TypeId} {pos : String} {after : Array Edge} {g : Option (Nat × Bool)}
theorem ex_eqPs {x y : Operand} {t t' : TypeId} {a : Addr} (hx : σ.ev x = some (.pointer (some a))) (hy : σ.ev y = some (.pointer none)) (h : P.underlying t = some (.pointer (P.pointee t))) : Ex P σ ⟨dst, .binOp .eql t x y t', T, pos, after, g⟩ w (.bool false) w := fun ρ hρ => by
  have := Go.run_eql_pointer_nil (P := P) (w := w) t (some a) h
  simp [execOp, hρ x _ hx, hρ y _ hy, eqGuard, this]
theorem ex_eqPn {x y : Operand} {t t' : TypeId} (hx : σ.ev x = some (.pointer none)) (hy : σ.ev y = some (.pointer none)) (h : P.underlying t = some (.pointer (P.pointee t))) : Ex P σ ⟨dst, .binOp .eql t x y t', T, pos, after, g⟩ w (.bool true) w := fun ρ hρ => by
  have := Go.run_eql_pointer_nil (P := P) (w := w) t none h
  simp [execOp, hρ x _ hx, hρ y _ hy, eqGuard, this]
end
theorem Tryd.ptr44 : Tryd.prog.underlying 44 = some (.pointer (Tryd.prog.pointee 44)) := by kernel_rfl

/-- The bits that a packer has written, but that the number stands at 0. -/
def strm (ds : List Smp) : List Bool := num 0 17 ++ body Stt.zero ds
abbrev zaf (ds : List Smp) : Stt := after Stt.zero ds
theorem strm_snoc (ds : List Smp) (s : Smp) : strm (ds ++ [s]) = strm ds ++ (step (zaf ds) s).1 := by simp [strm, body_append, body]
theorem zaf_snoc (ds : List Smp) (s : Smp) : zaf (ds ++ [s]) = (step (zaf ds) s).2 := by simp [after_append, after]
theorem zaf_n (ds : List Smp) : (zaf ds).n = ds.length := by rw [zaf, after_n]; simp [Stt.zero]
theorem strm_len (ds : List Smp) : (strm ds).length ≤ 17 + 160 * ds.length := by have := (body_len ds Stt.zero).2; simp only [strm, List.length_append, num_length]; omega
theorem zaf_t {ds : List Smp} (h : 0 < ds.length) : (zaf ds).t = (ds[ds.length - 1]'(by omega)).t := by
  have := stAt_t (l := ds) (k := ds.length - 1) (by omega)
  simp only [stAt, show ds.length - 1 + 1 = ds.length by omega, List.take_length] at this
  exact this
theorem PackIs.uniq {ds : List Smp} {a b : List Nat} {e f : Int} (h : PackIs ds a e) (k : PackIs ds b f) : a = b ∧ e = f := by
  rcases h with ⟨h1, h2, h3⟩ | ⟨h1, h2, h3, h4⟩ | ⟨h1, h2, h3, h4⟩ <;> rcases k with ⟨k1, k2, k3⟩ | ⟨k1, k2, k3, k4⟩ | ⟨k1, k2, k3, k4⟩
  · exact ⟨h2.trans k2.symm, h3.trans k3.symm⟩
  · omega
  · omega
  · omega
  · exact ⟨h3.trans k3.symm, h4.trans k4.symm⟩
  · exact absurd k2 h2
  · omega
  · exact absurd h2 k2
  · exact ⟨PacksN.uniq h3 k3, h4.trans k4.symm⟩
/-- What Add answers, and the samples then. -/
def addRes (ds : List Smp) (s : Smp) : Int := if ds.length = 100000 then 1 else if 0 < ds.length ∧ s.t ≤ (zaf ds).t then 170 else 0
def addL (ds : List Smp) (s : Smp) : List Smp := if addRes ds s = 0 then ds ++ [s] else ds
/-- What may stand in a packer. -/
structure PkOk (ds : List Smp) : Prop where
  len : ds.length ≤ 100000
  up : Rises ds
  ok : ∀ s, s ∈ ds → s.Ok
theorem PkOk.nil : PkOk [] where
  len := by simp
  up := fun k hk => by simp at hk
  ok := fun _ h => by cases h
theorem Rises.snoc {ds : List Smp} (h : Rises ds) {s : Smp} (hs : ∀ h : 0 < ds.length, (ds[ds.length - 1]'(by omega)).t < s.t) : Rises (ds ++ [s]) := fun k hk => by
  simp only [List.length_append, List.length_cons, List.length_nil] at hk
  by_cases h1 : k + 1 < ds.length
  · rw [List.getElem_append_left (by omega), List.getElem_append_left h1]; exact h k h1
  · have h2 : k + 1 = ds.length := by omega
    rw [List.getElem_append_left (by omega), List.getElem_append_right (by omega)]
    have := hs (by omega)
    simp only [show ds.length - 1 = k by omega] at this
    simpa using this
theorem add_full {ds : List Smp} {s : Smp} (h : ds.length = 100000) : addRes ds s = 1 ∧ addL ds s = ds := by
  have : addRes ds s = 1 := by unfold addRes; rw [if_pos h]
  exact ⟨this, by unfold addL; rw [if_neg (by rw [this]; omega)]⟩
theorem add_low {ds : List Smp} {s : Smp} (h : ¬ ds.length = 100000) (h1 : 0 < ds.length) (h2 : s.t ≤ (zaf ds).t) : addRes ds s = 170 ∧ addL ds s = ds := by
  have : addRes ds s = 170 := by unfold addRes; rw [if_neg h, if_pos ⟨h1, h2⟩]
  exact ⟨this, by unfold addL; rw [if_neg (by rw [this]; omega)]⟩
theorem add_one {ds : List Smp} {s : Smp} (h : ¬ ds.length = 100000) (h1 : ¬ (0 < ds.length ∧ s.t ≤ (zaf ds).t)) : addRes ds s = 0 ∧ addL ds s = ds ++ [s] := by
  have : addRes ds s = 0 := by unfold addRes; rw [if_neg h, if_neg h1]
  exact ⟨this, by unfold addL; rw [if_pos this]⟩
theorem PkOk.add {ds : List Smp} (h : PkOk ds) {s : Smp} (hs : s.Ok) : PkOk (addL ds s) := by
  unfold addL
  split
  · rename_i h0
    have hl := h.len
    have hne : ¬ ds.length = 100000 := fun h1 => by rw [(add_full h1).1] at h0; omega
    refine ⟨by simp only [List.length_append, List.length_cons, List.length_nil]; omega, h.up.snoc fun h1 => ?_, fun x hx => ?_⟩
    · rw [← zaf_t h1]
      apply Int.lt_of_not_ge
      intro h2
      rw [(add_low hne h1 h2).1] at h0; omega
    · rcases List.mem_append.1 hx with hx | hx
      · exact h.ok x hx
      · rw [List.mem_singleton.1 hx]; exact hs
  · exact h
/-- A packer's memory. -/
def Pkr (w : World) (bp : Nat) (ds : List Smp) (ob : Option Nat) : Prop := PkOk ds ∧ ∃ a m c bs, Wr w bp 85 (zv (zaf ds)) (strm ds) a m c bs ob
theorem Pkr.evo {X : List Nat} {w w' : World} {bp : Nat} {ds : List Smp} {ob : Option Nat} (h : Pkr w bp ds ob) (he : Evo X w w') (h1 : bp ∉ X) (h2 : ∀ g, ob = some g → g ∉ X) : Pkr w' bp ds ob := by
  obtain ⟨hk, a, m, c, bs, hw⟩ := h
  exact ⟨hk, a, m, c, bs, he.blk hw.blk h1, hw.own.evo he h2, hw.pk, hw.ap⟩

theorem same_ok {X Y : List Nat} {w : World} {va vb : Value} {xa xb : List Nat} (ha : RSl 1 RB X w va xa) (hb : RSl 1 RB Y w vb xb) :
    Calls Tryd.prog 14 #[va, vb] w (Ret fun r w' => r = .bool (decide (xa = xb)) ∧ Evo [] w w') := by
  refine calls_of_cw (N := 10) Tryd.func14 rfl rfl rfl ?_
  refine cw_seq ?_
  refine cw_region ?_
  refine wl_val rfl (ex_assign rfl) ?_
  refine wl_nil (nrm_then ?_)
  refine cw_seq ?_
  refine cw_region ?_
  refine wl_val rfl (ex_move rfl) ?_
  refine wl_val rfl (ex_bstr rfl ha Tryd.underlying24 Tryd.underlying5 Tryd.underlying9) ?_
  refine wl_val rfl (ex_move rfl) ?_
  refine wl_val rfl (ex_bstr rfl hb Tryd.underlying24 Tryd.underlying5 Tryd.underlying9) ?_
  refine wl_val rfl (ex_eqs rfl rfl) ?_
  refine wl_val rfl (ex_assign rfl) ?_
  refine wl_nil (nrm_then ?_)
  refine cw_ret (body_ret1 rfl rfl ?_)
  exact ⟨by rw [decide_eq_decide.2 (bstr_inj (rsl_lt ha) (rsl_lt hb))], (Evo.refl [] w)⟩

theorem new_ok {w : World} :
    Calls Tryd.prog 21 #[] w (Ret fun r w' => ∃ bp ob, r = .pointer (some ⟨bp, 0, none⟩) ∧ Pkr w' bp [] ob ∧ Evo [] w w' ∧ Ge w (some bp) ∧ Ge w ob) := by
  refine calls_of_cw (N := 9) Tryd.func21 rfl rfl rfl ?_
  refine cw_seq ?_
  refine cw_region ?_
  refine wl_val rfl (ex_assign rfl) ?_
  refine wl_nil (nrm_then ?_)
  refine cw_seq ?_
  refine cw_region ?_
  refine wl_val rfl (ex_build (vs := []) Tryd.build85 rfl (cells := [_, _, _, _, _, _, _, _, _]) rfl) ?_
  refine wl_boxA rfl rfl fun b1 w2 hB3 hs4 hw5 => ?_
  have hG6 := Ge.new (Evo.refl [] w) hs4
  have hE7 := (Evo.refl [] w).then hw5
  refine wl_val rfl (ex_assign rfl) ?_
  refine wl_nil (nrm_then ?_)
  refine cw_seq ?_
  refine cw_region ?_
  refine wl_val rfl (ex_move rfl) ?_
  refine wl_val rfl (ex_nilCheck rfl) ?_
  refine wl_val rfl (ex_fieldAddr rfl Tryd.fld85_0) ?_
  refine wl_call1 (vs := [_, _, _]) Tryd.goes32 rfl (put_ok (wr0 (rest := zv Stt.zero) hB3) 0 17 (by omega) (by omega) (by simp)) rfl ?_
  rintro _ w8 ⟨rfl, a1, m1, c1, bs1, ob1, hW1, hw9, hb1⟩
  have hg1 := ge_ob (Ge.nil _) hE7 hb1
  have hE10 := hE7.step hw9 (ge2 hG6 (Ge.nil _))
  refine wl_nil (nrm_then ?_)
  refine cw_seq ?_
  refine cw_region ?_
  refine wl_val rfl (ex_move rfl) ?_
  refine wl_val rfl (ex_assign rfl) ?_
  refine wl_nil (nrm_then ?_)
  refine cw_ret (body_ret1 rfl rfl ?_)
  exact ⟨_, ob1, rfl, ⟨PkOk.nil, a1, m1, c1, bs1, hW1.blk, hW1.own, hW1.pk, hW1.ap⟩, hE10, hG6, hg1⟩

theorem add_ok {w : World} {bp : Nat} {ds : List Smp} {ob : Option Nat} (h : Pkr w bp ds ob) {s : Smp} (hs : s.Ok) (ht : Tab w) (h1 : 1 ∉ bp :: ob.toList) :
    Calls Tryd.prog 22 #[.pointer (some ⟨bp, 0, none⟩), .agg #[.int .i64 s.t, .float .f64 s.v, .bool s.st]] w (Ret fun r w' => r = .int .i64 (addRes ds s) ∧ ∃ ob', Pkr w' bp (addL ds s) ob' ∧ Evo (bp :: ob.toList) w w' ∧ (ob' = ob ∨ Ge w ob')) := by
  obtain ⟨hk, a, m, c, bs, hW⟩ := h
  have hkl := hk.len
  have hzn := zaf_n ds
  have hsl := strm_len ds
  have hzo : (zaf ds).Ok := after_ok Stt.zero_ok hk.ok
  have hB0 := hW.blk
  have hO0 := hW.own
  refine calls_of_cw (N := 40) Tryd.func22 rfl rfl rfl ?_
  refine cw_seq ?_
  refine cw_region ?_
  refine wl_boxA rfl rfl fun b1 w2 hB3 hs4 hw5 => ?_
  have hA6 := Apart.new (Lt.blk hB0) hs4
  have hA7 := Apart.new (Lt.own hO0) hs4
  have hG8 := Ge.new (Evo.refl (bp :: ob.toList) w) hs4
  have hE9 := (Evo.refl (bp :: ob.toList) w).then hw5
  have hB10 := hw5.blk0 hB0
  have hO11 := hO0.evo0 hw5
  refine wl_val rfl (ex_assign rfl) ?_
  refine wl_nil (nrm_then ?_)
  refine cw_seq ?_
  refine cw_block ?_
  refine cw_seq ?_
  refine cw_region ?_
  refine wl_val rfl (ex_move rfl) ?_
  refine wl_val rfl (ex_eqPs rfl rfl Tryd.ptr44) ?_
  refine wl_val rfl (ex_assign rfl) ?_
  refine wl_nil (nrm_then ?_)
  refine cw_false rfl ?_
  refine cw_seq ?_
  refine cw_region ?_
  refine wl_val rfl (ex_move rfl) ?_
  refine wl_val rfl (ex_nilCheck rfl) ?_
  refine wl_val rfl (ex_fieldAddr rfl Tryd.fld85_1) ?_
  refine wl_val rfl (ex_fieldAddr rfl Tryd.fld74_0) ?_
  refine wl_val rfl (ex_load1 rfl Tryd.agg3 (cell_nth hB10 rfl)) ?_
  refine wl_val rfl (ex_eql rfl rfl) ?_
  refine wl_val rfl (ex_assign rfl) ?_
  refine wl_nil (nrm_then ?_)
  refine cw_if rfl (fun hc8 => ?_) (fun hc8 => ?_)
  · skip
    refine cw_seq ?_
    refine cw_region ?_
    refine wl_val rfl (ex_assign rfl) ?_
    refine wl_nil (nrm_then ?_)
    refine cw_ret (ret_block (ret_then (body_ret1 rfl rfl ?_)))
    have hfu := add_full (ds := ds) (s := s) (by omega)
    rw [hfu.1, hfu.2]
    exact ⟨rfl, ob, ⟨hk, a, m, c, bs, hB10, hO11, hW.pk, hW.ap⟩, hE9, .inl rfl⟩
  · skip
    refine cw_seq ?_
    refine cw_quiet (by kernel_rfl) (by kernel_rfl) ?_
    refine ql_val rfl (fun _ hq13 => ex_move rfl) ?_
    refine ql_val rfl (fun _ hq13 => ex_nilCheck rfl) ?_
    refine ql_val rfl (fun _ hq13 => ex_fieldAddr rfl Tryd.fld85_1) ?_
    refine ql_val rfl (fun _ hq13 => ex_fieldAddr rfl Tryd.fld74_0) ?_
    refine ql_val rfl (fun _ hq13 => ex_load1 rfl Tryd.agg3 (cell_nth (hq13.blk0 hB10) rfl)) ?_
    refine ql_val rfl (fun _ hq13 => ex_gtr rfl rfl) ?_
    refine ql_val rfl (fun _ hq13 => ex_move rfl) ?_
    refine ql_split (t := 22) rfl (fun hs22 => ?_) (fun hs22 => ?_)
    · skip
      refine ql_go rfl rfl rfl rfl ?_
      refine ql_val rfl (fun _ hq13 => ex_fieldAddr rfl Tryd.fld41_0) ?_
      refine ql_go rfl rfl rfl rfl ?_
      refine ql_val rfl (fun _ hq13 => ex_load1 rfl Tryd.agg2 (cell_nth (hq13.blk0 hB3) rfl)) ?_
      refine ql_go rfl rfl rfl rfl ?_
      refine ql_val rfl (fun _ hq13 => ex_move rfl) ?_
      refine ql_go rfl rfl rfl rfl ?_
      refine ql_val rfl (fun _ hq13 => ex_nilCheck rfl) ?_
      refine ql_go rfl rfl rfl rfl ?_
      refine ql_val rfl (fun _ hq13 => ex_fieldAddr rfl Tryd.fld85_1) ?_
      refine ql_go rfl rfl rfl rfl ?_
      refine ql_val rfl (fun _ hq13 => ex_fieldAddr rfl Tryd.fld74_1) ?_
      refine ql_go rfl rfl rfl rfl ?_
      refine ql_val rfl (fun _ hq13 => ex_load1 rfl Tryd.agg2 (cell_nth (hq13.blk0 hB10) rfl)) ?_
      refine ql_go rfl rfl rfl rfl ?_
      refine ql_val rfl (fun _ hq13 => ex_leq rfl rfl) ?_
      refine ql_val rfl (fun _ hq13 => ex_pick_t rfl rfl) ?_
      refine ql_val rfl (fun _ hq13 => ex_assign rfl) ?_
      refine ql_nil (fun wq12 hq13 => nrm_then ?_)
      have hE14 := hE9.then hq13
      have hB15 := hq13.blk0 hB10
      have hO16 := hO11.evo0 hq13
      have hB17 := hq13.blk0 hB3
      refine cw_if rfl (fun hc15 => ?_) (fun hc15 => ?_)
      · skip
        refine cw_seq ?_
        refine cw_region ?_
        refine wl_val rfl (ex_assign rfl) ?_
        refine wl_nil (nrm_then ?_)
        refine cw_ret (ret_block (ret_then (body_ret1 rfl rfl ?_)))
        have hfu := add_low (ds := ds) (s := s) (by omega) (by omega) (by omega)
        rw [hfu.1, hfu.2]
        exact ⟨rfl, ob, ⟨hk, a, m, c, bs, hB15, hO16, hW.pk, hW.ap⟩, hE14, .inl rfl⟩
      · skip
        refine cw_skip (nrm_block (nrm_then ?_))
        refine cw_seq ?_
        refine cw_any (fun w0 w' => Evo (bp :: ob.toList) w0 w') (by kernel_rfl) (fun w18 hw19 => ?_)
        have hE20 := hE14.then hw19
        have hB21 := hw19.blk0 hB15
        have hO22 := hO16.evo0 hw19
        have hB23 := hw19.blk0 hB17
        refine ae_take 0 rfl (by kernel_rfl) (by kernel_rfl) (by kernel_rfl) rfl (fun _ hS => ex_move rfl) (Evo.refl (bp :: ob.toList) w18) ?_
        refine ae_take 1 rfl (by kernel_rfl) (by kernel_rfl) (by kernel_rfl) rfl (fun _ hS => ex_nilCheck rfl) (Evo.refl (bp :: ob.toList) w18) ?_
        refine ae_take 2 rfl (by kernel_rfl) (by kernel_rfl) (by kernel_rfl) rfl (fun _ hS => ex_fieldAddr rfl Tryd.fld85_1) (Evo.refl (bp :: ob.toList) w18) ?_
        refine ae_take 3 rfl (by kernel_rfl) (by kernel_rfl) (by kernel_rfl) rfl (fun _ hS => ex_move rfl) (Evo.refl (bp :: ob.toList) w18) ?_
        refine ae_take 4 rfl (by kernel_rfl) (by kernel_rfl) (by kernel_rfl) rfl (fun _ hS => ex_nilCheck rfl) (Evo.refl (bp :: ob.toList) w18) ?_
        refine ae_take 5 rfl (by kernel_rfl) (by kernel_rfl) (by kernel_rfl) rfl (fun _ hS => ex_fieldAddr rfl Tryd.fld85_0) (Evo.refl (bp :: ob.toList) w18) ?_
        refine ae_take 6 rfl (by kernel_rfl) (by kernel_rfl) (by kernel_rfl) rfl (fun _ hS => ex_loadBlk rfl Tryd.agg41 Tryd.size41 (hS.blk hB23 (nm2 hA6.symm hA7.symm)) rfl) (Evo.refl (bp :: ob.toList) w18) ?_
        refine ae_loud [7] (by kernel_rfl) rfl ⟨?_, trivial⟩
        refine a_step rfl ?_
        refine wl_call1 (vs := [_, _, _]) Tryd.goes33 rfl (writeB_ok (V := 85) (s := s) ⟨hB21, hO22, hW.pk, hW.ap⟩ hzo (by omega) hs (by omega) (ht.evo hE20 h1) h1) rfl ?_
        rintro _ w24 ⟨rfl, a1, m1, c1, bs1, ob1, hW1, hw25, hb1⟩
        have hob1 := ob_trans (.inl rfl) hE20 hb1
        have hE26 := hE20.step hw25 (fun y hy => .inl hy)
        have hE27 := (Evo.refl (bp :: ob.toList) w18).step hw25 (fun y hy => .inl hy)
        have hB28 := hw25.blk hB23 (nm2 hA6.symm hA7.symm)
        refine wl_nil (ae_next (.inl hE27) ?_)
        refine ae_done (by kernel_rfl) (nrm_then ?_)
        refine cw_seq ?_
        refine cw_region ?_
        refine wl_val rfl (ex_assign rfl) ?_
        refine wl_nil (nrm_then ?_)
        refine cw_ret (body_ret1 rfl rfl ?_)
        have hfu := add_one (ds := ds) (s := s) (by omega) (by omega)
        have hka := hk.add hs
        rw [hfu.2] at hka
        rw [hfu.1, hfu.2]
        refine ⟨rfl, ob1, ⟨hka, a1, m1, c1, bs1, ?_⟩, hE26, hob1⟩
        rw [strm_snoc, zaf_snoc]
        exact ⟨hW1.blk, hW1.own, hW1.pk, hW1.ap⟩
    · skip
      refine ql_no rfl rfl rfl rfl rfl rfl ?_
      refine ql_no rfl rfl rfl rfl rfl rfl ?_
      refine ql_no rfl rfl rfl rfl rfl rfl ?_
      refine ql_no rfl rfl rfl rfl rfl rfl ?_
      refine ql_no rfl rfl rfl rfl rfl rfl ?_
      refine ql_no rfl rfl rfl rfl rfl rfl ?_
      refine ql_no rfl rfl rfl rfl rfl rfl ?_
      refine ql_no rfl rfl rfl rfl rfl rfl ?_
      refine ql_val rfl (fun _ hq13 => ex_pick_f rfl rfl) ?_
      refine ql_val rfl (fun _ hq13 => ex_assign rfl) ?_
      refine ql_nil (fun wq12 hq13 => nrm_then ?_)
      have hE29 := hE9.then hq13
      have hB30 := hq13.blk0 hB10
      have hO31 := hO11.evo0 hq13
      have hB32 := hq13.blk0 hB3
      refine cw_false rfl ?_
      refine cw_skip (nrm_block (nrm_then ?_))
      refine cw_seq ?_
      refine cw_any (fun w0 w' => Evo (bp :: ob.toList) w0 w') (by kernel_rfl) (fun w33 hw34 => ?_)
      have hE35 := hE29.then hw34
      have hB36 := hw34.blk0 hB30
      have hO37 := hO31.evo0 hw34
      have hB38 := hw34.blk0 hB32
      refine ae_take 0 rfl (by kernel_rfl) (by kernel_rfl) (by kernel_rfl) rfl (fun _ hS => ex_move rfl) (Evo.refl (bp :: ob.toList) w33) ?_
      refine ae_take 1 rfl (by kernel_rfl) (by kernel_rfl) (by kernel_rfl) rfl (fun _ hS => ex_nilCheck rfl) (Evo.refl (bp :: ob.toList) w33) ?_
      refine ae_take 2 rfl (by kernel_rfl) (by kernel_rfl) (by kernel_rfl) rfl (fun _ hS => ex_fieldAddr rfl Tryd.fld85_1) (Evo.refl (bp :: ob.toList) w33) ?_
      refine ae_take 3 rfl (by kernel_rfl) (by kernel_rfl) (by kernel_rfl) rfl (fun _ hS => ex_move rfl) (Evo.refl (bp :: ob.toList) w33) ?_
      refine ae_take 4 rfl (by kernel_rfl) (by kernel_rfl) (by kernel_rfl) rfl (fun _ hS => ex_nilCheck rfl) (Evo.refl (bp :: ob.toList) w33) ?_
      refine ae_take 5 rfl (by kernel_rfl) (by kernel_rfl) (by kernel_rfl) rfl (fun _ hS => ex_fieldAddr rfl Tryd.fld85_0) (Evo.refl (bp :: ob.toList) w33) ?_
      refine ae_take 6 rfl (by kernel_rfl) (by kernel_rfl) (by kernel_rfl) rfl (fun _ hS => ex_loadBlk rfl Tryd.agg41 Tryd.size41 (hS.blk hB38 (nm2 hA6.symm hA7.symm)) rfl) (Evo.refl (bp :: ob.toList) w33) ?_
      refine ae_loud [7] (by kernel_rfl) rfl ⟨?_, trivial⟩
      refine a_step rfl ?_
      refine wl_call1 (vs := [_, _, _]) Tryd.goes33 rfl (writeB_ok (V := 85) (s := s) ⟨hB36, hO37, hW.pk, hW.ap⟩ hzo (by omega) hs (by omega) (ht.evo hE35 h1) h1) rfl ?_
      rintro _ w39 ⟨rfl, a1, m1, c1, bs1, ob1, hW1, hw40, hb1⟩
      have hob1 := ob_trans (.inl rfl) hE35 hb1
      have hE41 := hE35.step hw40 (fun y hy => .inl hy)
      have hE42 := (Evo.refl (bp :: ob.toList) w33).step hw40 (fun y hy => .inl hy)
      have hB43 := hw40.blk hB38 (nm2 hA6.symm hA7.symm)
      refine wl_nil (ae_next (.inl hE42) ?_)
      refine ae_done (by kernel_rfl) (nrm_then ?_)
      refine cw_seq ?_
      refine cw_region ?_
      refine wl_val rfl (ex_assign rfl) ?_
      refine wl_nil (nrm_then ?_)
      refine cw_ret (body_ret1 rfl rfl ?_)
      have hfu := add_one (ds := ds) (s := s) (by omega) (by omega)
      have hka := hk.add hs
      rw [hfu.2] at hka
      rw [hfu.1, hfu.2]
      refine ⟨rfl, ob1, ⟨hka, a1, m1, c1, bs1, ?_⟩, hE41, hob1⟩
      rw [strm_snoc, zaf_snoc]
      exact ⟨hW1.blk, hW1.own, hW1.pk, hW1.ap⟩

theorem len_ok {w : World} {bp : Nat} {ds : List Smp} {ob : Option Nat} (h : Pkr w bp ds ob) :
    Calls Tryd.prog 23 #[.pointer (some ⟨bp, 0, none⟩)] w (Ret fun r w' => r = .int .i64 ds.length ∧ Evo [] w w') := by
  obtain ⟨hk, a, m, c, bs, hW⟩ := h
  have hzn := zaf_n ds
  have hB0 := hW.blk
  refine calls_of_cw (N := 10) Tryd.func23 rfl rfl rfl ?_
  refine cw_seq ?_
  refine cw_region ?_
  refine wl_val rfl (ex_assign rfl) ?_
  refine wl_nil (nrm_then ?_)
  refine cw_seq ?_
  refine cw_seq ?_
  refine cw_region ?_
  refine wl_val rfl (ex_move rfl) ?_
  refine wl_val rfl (ex_eqPs rfl rfl Tryd.ptr44) ?_
  refine wl_nil (nrm_then ?_)
  refine cw_false rfl ?_
  refine cw_skip (nrm_then ?_)
  refine cw_seq ?_
  refine cw_region ?_
  refine wl_val rfl (ex_move rfl) ?_
  refine wl_val rfl (ex_nilCheck rfl) ?_
  refine wl_val rfl (ex_fieldAddr rfl Tryd.fld85_1) ?_
  refine wl_val rfl (ex_fieldAddr rfl Tryd.fld74_0) ?_
  refine wl_val rfl (ex_load1 rfl Tryd.agg3 (cell_nth hB0 rfl)) ?_
  refine wl_val rfl (ex_assign rfl) ?_
  refine wl_nil (nrm_then ?_)
  refine cw_ret (body_ret1 rfl rfl ?_)
  exact ⟨by rw [hzn], (Evo.refl [] w)⟩

end Go.Proofs.YtclmkppiolfgbaaDoor
