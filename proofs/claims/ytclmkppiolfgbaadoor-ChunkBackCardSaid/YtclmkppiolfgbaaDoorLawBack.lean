/- For all samples and bytes the law ChunkBack answers true and leaves them as they are: what is packed comes back, what does not rise is refused, and bytes that are read are just the form of what is read from them. Condition: the table math/bits.deBruijn64tab holds what the text of the program lays there (the card ties it). -/
import Derived.Test.YtclmkppiolfgbaaDoorKq
import Derived.Test.YtclmkppiolfgbaaDoorLs
import Derived.Laws.FloatArith
namespace Go.Proofs.YtclmkppiolfgbaaDoor
open Go.Proofs
open Go.W Go.ChangeShapes Go.WideShapes Go.ChangeAt Go.RowKit
set_option linter.unusedVariables false
attribute [local irreducible] Decidable.decide
set_option linter.unusedSimpArgs false
set_option linter.unusedVariables false
theorem Tryd.goes11 : Goes Tryd.prog 11 := ⟨_, Tryd.func11, by kernel_rfl, by kernel_rfl⟩
theorem Tryd.goes14 : Goes Tryd.prog 14 := ⟨_, Tryd.func14, by kernel_rfl, by kernel_rfl⟩
theorem Tryd.goes18 : Goes Tryd.prog 18 := ⟨_, Tryd.func18, by kernel_rfl, by kernel_rfl⟩
theorem Tryd.goes19 : Goes Tryd.prog 19 := ⟨_, Tryd.func19, by kernel_rfl, by kernel_rfl⟩
theorem Tryd.goes20 : Goes Tryd.prog 20 := ⟨_, Tryd.func20, by kernel_rfl, by kernel_rfl⟩


theorem upk_good {bs : List Nat} {out : List Smp} {e : Int} (h : UnpackIs bs out e) (he : e = 0) : Valid out ∧ Packs bs (form out) := by
  rcases h with ⟨_, h1, _, h2⟩ | ⟨h, _⟩
  · exact ⟨h1, h2⟩
  · omega
theorem pack_valid {l : List Smp} {bs : List Nat} {e : Int} (hv : Valid l) (h : PackIs l bs e) : e = 0 ∧ Packs bs (form l) := by
  have hl := hv.len
  rcases h with ⟨h, _⟩ | ⟨_, h, _⟩ | ⟨_, _, h, he⟩
  · omega
  · exact absurd hv.up h
  · exact ⟨he, h⟩
theorem pack_long {l : List Smp} {bs : List Nat} {e : Int} (h : PackIs l bs e) (hl : 100000 < l.length) : bs = [] ∧ e = 1 := by
  rcases h with ⟨_, h⟩ | ⟨h, _⟩ | ⟨h, _⟩
  · exact h
  · omega
  · omega
theorem pack_wild {l : List Smp} {bs : List Nat} {e : Int} (h : PackIs l bs e) (hl : l.length ≤ 100000) (hr : ¬ Rises l) : bs = [] ∧ e = 170 := by
  rcases h with ⟨h, _⟩ | ⟨_, _, h⟩ | ⟨_, h, _⟩
  · omega
  · exact h
  · exact absurd h hr
theorem cb_nan {v : Nat} : cb v = v ∨ (nanB (cb v) = true ∧ nanB v = true) := by
  cases h : nanB v with
  | true => refine .inr ⟨?_, rfl⟩; rw [cb, if_pos h]; kernel_rfl
  | false => exact .inl (by rw [cb, if_neg (by simp [h])])
theorem canon_alike (l : List Smp) : Alike (l.map canon) l true := by
  refine ⟨by simp, fun k h h' => ?_⟩
  rw [List.getElem_map]
  cases hst : l[k].st with
  | true => rw [canon_st hst]; exact ⟨rfl, rfl, .inr (.inr ⟨rfl, rfl⟩)⟩
  | false =>
    rw [canon_v hst]
    refine ⟨rfl, rfl, ?_⟩
    rcases cb_nan (v := l[k].v) with h | h
    · exact .inl h
    · exact .inr (.inl h)
theorem canon_zero {l : List Smp} {k : Nat} (hk : k < (l.map canon).length) (h : (l.map canon)[k].st = true) : (l.map canon)[k].v = 0 := by
  rw [List.getElem_map] at h ⊢
  have h1 := canon_canon (l[k]'(by simpa using hk))
  unfold Canon at h1
  rw [if_pos h] at h1
  exact h1
theorem ex_fquo {P : Program} {σ : Env} {w : World} {dst : Option Nat} {T : TypeId} {pos : String} {after : Array Edge} {g : Option (Nat × Bool)} {x y : Operand} {t t' : TypeId} {k : FloatKind} {m n r : Nat} (hx : σ.ev x = some (.float k m)) (hy : σ.ev y = some (.float k n)) (h : floatBits .quo k m n = some r) : Ex P σ ⟨dst, .binOp .quo t x y t', T, pos, after, g⟩ w (.float k r) w := fun ρ hρ => by
  have := run_float_arith (P := P) w .quo t k m n r h
  simp [execOp, hρ x _ hx, hρ y _ hy, eqGuard, this]
theorem one_zero : floatBits .quo .f64 4607182418800017408 0 = some 9218868437227405312 := by kernel_rfl

theorem walk_ok {X Y : List Nat} {w : World} {va vb : Value} {l : List Smp} {bs : List Nat} (hsa : RSl 3 RSmp X w va l) (hla : l.length * 24 ≤ 140737488351232) (hsb : RSl 1 RB Y w vb bs) (hlb : bs.length * 1 ≤ 140737488351232) (ht : Tab w) :
    Calls Tryd.prog 5 #[va, vb] w (Ret fun r w' => r = .bool true ∧ Evo [] w w') := by
  have hsa' := hsa
  obtain ⟨aa, ca, rfl, -, -⟩ := hsa'
  have hoka := rsl_ok hsa
  refine calls_of_cw (N := 144) Tryd.func5 rfl rfl rfl ?_
  refine cw_seq ?_
  refine cw_region ?_
  refine wl_val rfl (ex_assign rfl) ?_
  refine wl_nil (nrm_then ?_)
  refine cw_seq ?_
  refine cw_seq ?_
  refine cw_region ?_
  refine wl_call1 (vs := []) Tryd.goes11 rfl (alive_ok (Tab.evo ht (Evo.refl [] w) (by simp))) rfl ?_
  rintro _ w1 ⟨rfl, hw2⟩
  have hE3 := (Evo.refl [] w).then hw2
  refine wl_val rfl (ex_notb rfl) ?_
  refine wl_nil (nrm_then ?_)
  refine cw_false rfl ?_
  refine cw_skip (nrm_then ?_)
  refine cw_seq ?_
  refine cw_region ?_
  refine wl_val rfl (ex_move rfl) ?_
  refine wl_call1 (vs := [_]) Tryd.goes17 rfl (unpack_ok (RSl.evo RB.pers ((hE3).any _) hsb) (by omega) (ht.evo hE3 (by simp))) rfl ?_
  rintro _ w4 ⟨v1, t1, h1, rfl, hs1, hU1, hw5⟩
  have hE6 := hE3.then hw5
  have hs1' := hs1
  obtain ⟨a1, c1, rfl, -, -⟩ := hs1'
  have hee := upk_err hU1
  have hel := upk_len hU1
  refine wl_val rfl (ex_move rfl) ?_
  refine wl_val rfl (ex_extract rfl rfl) ?_
  refine wl_val rfl (ex_extract rfl rfl) ?_
  refine wl_val rfl (ex_assign rfl) ?_
  refine wl_val rfl (ex_assign rfl) ?_
  refine wl_nil (nrm_then ?_)
  refine cw_seq ?_
  refine cw_seq ?_
  refine cw_region ?_
  refine wl_val rfl (ex_move rfl) ?_
  refine wl_val rfl (ex_neq rfl rfl) ?_
  refine wl_val rfl (ex_move rfl) ?_
  refine wl_split (t := 25) rfl (fun hs25 => ?_) (fun hs25 => ?_)
  · skip
    refine wl_go rfl rfl rfl rfl ?_
    refine wl_val rfl (ex_move rfl) ?_
    refine wl_go rfl rfl rfl rfl ?_
    refine wl_val rfl (ex_neq rfl rfl) ?_
    refine wl_go rfl rfl rfl rfl ?_
    refine wl_val rfl (ex_move rfl) ?_
    refine wl_split (t := 28) rfl (fun hs28 => ?_) (fun hs28 => ?_)
    · skip
      exfalso; omega
    · skip
      refine wl_go rfl rfl rfl rfl ?_
      refine wl_val rfl (ex_move rfl) ?_
      refine wl_go rfl rfl rfl rfl ?_
      refine wl_val rfl (ex_len_slice rfl Tryd.underlying22 rfl) ?_
      refine wl_go rfl rfl rfl rfl ?_
      refine wl_val rfl (ex_neq rfl rfl) ?_
      refine wl_go rfl rfl rfl rfl ?_
      refine wl_val rfl (ex_pick_f rfl rfl) ?_
      refine wl_val rfl (ex_pick_t rfl rfl) ?_
      refine wl_nil (nrm_then ?_)
      refine cw_if rfl (fun hc33 => ?_) (fun hc33 => ?_)
      · skip
        have ht1 := upk_bad hU1 (by omega)
        rw [ht1] at hc33
        simp at hc33
      · skip
        refine cw_skip (nrm_then ?_)
        refine cw_seq ?_
        refine cw_seq ?_
        refine cw_region ?_
        refine wl_val rfl (ex_move rfl) ?_
        refine wl_val rfl (ex_eql rfl rfl) ?_
        refine wl_nil (nrm_then ?_)
        refine cw_if rfl (fun hc35 => ?_) (fun hc35 => ?_)
        · skip
          exfalso; omega
        · skip
          refine cw_skip (nrm_then ?_)
          refine cw_seq ?_
          refine cw_region ?_
          refine wl_val rfl (ex_move rfl) ?_
          refine wl_call1 (vs := [_]) Tryd.goes13 rfl (pack_ok (RSl.evo RSmp.pers ((hE6).any _) hsa) (by omega) (ht.evo hE6 (by simp))) rfl ?_
          rintro _ w7 ⟨v3, bs3, e3, rfl, hs3, hP3, hw8⟩
          have hE9 := hE6.then hw8
          have hE10 := (Evo.refl [] w4).then hw8
          have hs3' := hs3
          obtain ⟨a3, c3, rfl, -, -⟩ := hs3'
          refine wl_val rfl (ex_move rfl) ?_
          refine wl_val rfl (ex_extract rfl rfl) ?_
          refine wl_val rfl (ex_extract rfl rfl) ?_
          refine wl_val rfl (ex_assign rfl) ?_
          refine wl_val rfl (ex_assign rfl) ?_
          refine wl_nil (nrm_then ?_)
          refine cw_seq ?_
          refine cw_seq ?_
          refine cw_region ?_
          refine wl_val rfl (ex_move rfl) ?_
          refine wl_val rfl (ex_len_slice rfl Tryd.underlying22 rfl) ?_
          refine wl_val rfl (ex_gtr rfl rfl) ?_
          refine wl_nil (nrm_then ?_)
          refine cw_if rfl (fun hc66 => ?_) (fun hc66 => ?_)
          · skip
            obtain ⟨rfl, rfl⟩ := pack_long hP3 (by omega)
            refine cw_seq ?_
            refine cw_region ?_
            refine wl_val rfl (ex_move rfl) ?_
            refine wl_val rfl (ex_eql rfl rfl) ?_
            refine wl_val rfl (ex_move rfl) ?_
            refine wl_split (t := 69) rfl (fun hs69 => ?_) (fun hs69 => ?_)
            · skip
              refine wl_go rfl rfl rfl rfl ?_
              refine wl_val rfl (ex_move rfl) ?_
              refine wl_go rfl rfl rfl rfl ?_
              refine wl_val rfl (ex_len_slice rfl Tryd.underlying24 rfl) ?_
              refine wl_go rfl rfl rfl rfl ?_
              refine wl_val rfl (ex_eql rfl rfl) ?_
              refine wl_val rfl (ex_pick_t rfl rfl) ?_
              refine wl_val rfl (ex_assign rfl) ?_
              refine wl_nil (nrm_then ?_)
              refine cw_ret (ret_then (body_ret1 rfl rfl ?_))
              exact ⟨by simp, hE9⟩
            · skip
              refine wl_no rfl rfl rfl rfl rfl rfl ?_
              refine wl_no rfl rfl rfl rfl rfl rfl ?_
              refine wl_no rfl rfl rfl rfl rfl rfl ?_
              refine wl_val rfl (ex_pick_f rfl rfl) ?_
              refine wl_val rfl (ex_assign rfl) ?_
              refine wl_nil (nrm_then ?_)
              refine cw_ret (ret_then (body_ret1 rfl rfl ?_))
              exact absurd rfl hs69
          · skip
            refine cw_skip (nrm_then ?_)
            refine cw_seq ?_
            refine cw_seq ?_
            refine cw_region ?_
            refine wl_val rfl (ex_move rfl) ?_
            refine wl_call1 (vs := [_]) Tryd.goes18 rfl (rising_ok (RSl.evo RSmp.pers ((hE9).any _) hsa) (by omega)) rfl ?_
            rintro _ w11 ⟨⟨b6, rfl, hb6⟩, hw12⟩
            have hE13 := hE9.then hw12
            have hE14 := hE10.then hw12
            have hE15 := (Evo.refl [] w7).then hw12
            refine wl_val rfl (ex_notb rfl) ?_
            refine wl_nil (nrm_then ?_)
            refine cw_ifb rfl (fun hc76 => ?_) (fun hc76 => ?_)
            · skip
              obtain ⟨rfl, rfl⟩ := pack_wild hP3 (by omega) (fun h => by rw [hb6.2 h] at hc76; cases hc76)
              refine cw_seq ?_
              refine cw_region ?_
              refine wl_val rfl (ex_move rfl) ?_
              refine wl_val rfl (ex_eql rfl rfl) ?_
              refine wl_val rfl (ex_move rfl) ?_
              refine wl_split (t := 79) rfl (fun hs79 => ?_) (fun hs79 => ?_)
              · skip
                refine wl_go rfl rfl rfl rfl ?_
                refine wl_val rfl (ex_move rfl) ?_
                refine wl_go rfl rfl rfl rfl ?_
                refine wl_val rfl (ex_len_slice rfl Tryd.underlying24 rfl) ?_
                refine wl_go rfl rfl rfl rfl ?_
                refine wl_val rfl (ex_eql rfl rfl) ?_
                refine wl_val rfl (ex_pick_t rfl rfl) ?_
                refine wl_val rfl (ex_assign rfl) ?_
                refine wl_nil (nrm_then ?_)
                refine cw_ret (ret_then (body_ret1 rfl rfl ?_))
                exact ⟨by simp, hE13⟩
              · skip
                refine wl_no rfl rfl rfl rfl rfl rfl ?_
                refine wl_no rfl rfl rfl rfl rfl rfl ?_
                refine wl_no rfl rfl rfl rfl rfl rfl ?_
                refine wl_val rfl (ex_pick_f rfl rfl) ?_
                refine wl_val rfl (ex_assign rfl) ?_
                refine wl_nil (nrm_then ?_)
                refine cw_ret (ret_then (body_ret1 rfl rfl ?_))
                exact absurd rfl hs79
            · skip
              have hva : Valid l := ⟨by omega, hb6.1 (by simpa using hc76), hoka⟩
              obtain ⟨rfl, hpk3⟩ := pack_valid hva hP3
              have hfl := form_len l
              refine cw_skip (nrm_then ?_)
              refine cw_seq ?_
              refine cw_region ?_
              refine wl_val rfl (ex_move rfl) ?_
              refine wl_call1 (vs := [_]) Tryd.goes17 rfl (unpack_ok (RSl.evo RB.pers hE15 hs3) (by rw [hpk3.len]; omega) (ht.evo hE13 (by simp))) rfl ?_
              rintro _ w16 ⟨v4, t4, h4, rfl, hs4, hU4, hw17⟩
              have hE18 := hE13.then hw17
              have hE19 := hE14.then hw17
              have hE20 := hE15.then hw17
              obtain ⟨rfl, rfl⟩ := UnpackIs.back hva hpk3 hU4
              have hs4' := hs4
              obtain ⟨a4, c4, rfl, -, -⟩ := hs4'
              refine wl_val rfl (ex_move rfl) ?_
              refine wl_val rfl (ex_extract rfl rfl) ?_
              refine wl_val rfl (ex_extract rfl rfl) ?_
              refine wl_val rfl (ex_assign rfl) ?_
              refine wl_val rfl (ex_assign rfl) ?_
              refine wl_nil (nrm_then ?_)
              refine cw_seq ?_
              refine cw_region ?_
              refine wl_val rfl (ex_move rfl) ?_
              refine wl_call1 (vs := [_]) Tryd.goes19 rfl (count_ok (RSl.evo RB.pers hE20 hs3) (by rw [hpk3.len]; omega) (ht.evo hE18 (by simp))) rfl ?_
              rintro _ w21 ⟨t5, h5, rfl, hU5, hw22⟩
              have hE23 := hE18.then hw22
              have hE24 := hE19.then hw22
              have hE25 := hE20.then hw22
              have hE26 := (Evo.refl [] w16).then hw22
              obtain ⟨rfl, rfl⟩ := UnpackIs.back hva hpk3 hU5
              refine wl_val rfl (ex_move rfl) ?_
              refine wl_val rfl (ex_extract rfl rfl) ?_
              refine wl_val rfl (ex_extract rfl rfl) ?_
              refine wl_val rfl (ex_assign rfl) ?_
              refine wl_val rfl (ex_assign rfl) ?_
              refine wl_nil (nrm_then ?_)
              refine cw_seq ?_
              refine cw_seq ?_
              refine cw_region ?_
              refine wl_val rfl (ex_move rfl) ?_
              refine wl_val rfl (ex_neq rfl rfl) ?_
              refine wl_val rfl (ex_move rfl) ?_
              refine wl_split (t := 96) rfl (fun hs96 => ?_) (fun hs96 => ?_)
              · skip
                exfalso; omega
              · skip
                refine wl_go rfl rfl rfl rfl ?_
                refine wl_val rfl (ex_move rfl) ?_
                refine wl_go rfl rfl rfl rfl ?_
                refine wl_val rfl (ex_neq rfl rfl) ?_
                refine wl_val rfl (ex_pick_f rfl rfl) ?_
                refine wl_val rfl (ex_move rfl) ?_
                refine wl_split (t := 100) rfl (fun hs100 => ?_) (fun hs100 => ?_)
                · skip
                  exfalso; omega
                · skip
                  refine wl_go rfl rfl rfl rfl ?_
                  refine wl_val rfl (ex_move rfl) ?_
                  refine wl_go rfl rfl rfl rfl ?_
                  refine wl_val rfl (ex_neq rfl rfl) ?_
                  refine wl_val rfl (ex_pick_f rfl rfl) ?_
                  refine wl_val rfl (ex_move rfl) ?_
                  refine wl_split (t := 104) rfl (fun hs104 => ?_) (fun hs104 => ?_)
                  · skip
                    exfalso; omega
                  · skip
                    refine wl_go rfl rfl rfl rfl ?_
                    refine wl_val rfl (ex_move rfl) ?_
                    refine wl_go rfl rfl rfl rfl ?_
                    refine wl_val rfl (ex_move rfl) ?_
                    refine wl_go rfl rfl rfl rfl ?_
                    refine wl_val rfl (ex_len_slice rfl Tryd.underlying22 rfl) ?_
                    refine wl_go rfl rfl rfl rfl ?_
                    refine wl_val rfl (ex_neq rfl rfl) ?_
                    refine wl_val rfl (ex_pick_f rfl rfl) ?_
                    refine wl_val rfl (ex_move rfl) ?_
                    refine wl_split (t := 110) rfl (fun hs110 => ?_) (fun hs110 => ?_)
                    · skip
                      simp at hs110
                    · skip
                      refine wl_go rfl rfl rfl rfl ?_
                      refine wl_val rfl (ex_move rfl) ?_
                      refine wl_go rfl rfl rfl rfl ?_
                      refine wl_val rfl (ex_move rfl) ?_
                      refine wl_go rfl rfl rfl rfl ?_
                      refine wl_call1 (vs := [_, _, _]) Tryd.goes20 rfl (alike_ok (RSl.evo RSmp.pers hE26 hs4) (RSl.evo RSmp.pers ((hE23).any _) hsa) (canon_alike l) (by simp; omega)) rfl ?_
                      rintro _ w27 ⟨rfl, hw28⟩
                      have hE29 := hE23.then hw28
                      have hE30 := hE24.then hw28
                      have hE31 := hE25.then hw28
                      have hE32 := hE26.then hw28
                      refine wl_go rfl rfl rfl rfl ?_
                      refine wl_val rfl (ex_notb rfl) ?_
                      refine wl_val rfl (ex_pick_f rfl rfl) ?_
                      refine wl_nil (nrm_then ?_)
                      refine cw_false rfl ?_
                      refine cw_skip (nrm_then ?_)
                      refine cw_seq ?_
                      refine cw_seq ?_
                      refine cw_region ?_
                      refine wl_val rfl (ex_assign rfl) ?_
                      refine wl_nil (nrm_then ?_)
                      refine cw_block ?_
                      refine cw_loop (α := Nat) (0) (fun k => [(15, .int .i64 (k : Nat))]) [(11, _)] (fun k wr => Evo [] w27 wr ∧ (k ≤ (l.map canon).length)) (fun k => (l.map canon).length - k) ⟨rfl, trivial⟩ ⟨rfl, trivial⟩ ⟨Evo.refl _ _, Nat.zero_le _⟩ ?_
                      rintro k wr33 ⟨hV34, hk⟩
                      show CW _ _ _ _ [(15, _), (11, _)] _
                      have hE35 := hE29.then hV34
                      have hE36 := hE30.then hV34
                      have hE37 := hE31.then hV34
                      have hE38 := hE32.then hV34
                      refine cw_seq ?_
                      refine cw_seq ?_
                      refine cw_region ?_
                      refine wl_val rfl (ex_move rfl) ?_
                      refine wl_val rfl (ex_move rfl) ?_
                      refine wl_val rfl (ex_len_slice rfl Tryd.underlying22 rfl) ?_
                      refine wl_val rfl (ex_lss rfl rfl) ?_
                      refine wl_nil (nrm_then ?_)
                      refine cw_if rfl (fun hc119 => ?_) (fun hc119 => ?_)
                      · skip
                        have hk' : k < (l.map canon).length := by omega
                        obtain ⟨_, b1, o1, rfl, -, hc1⟩ := smp_at hs4 hk'
                        refine cw_skip (nrm_then ?_)
                        refine cw_seq ?_
                        refine cw_block ?_
                        refine cw_seq ?_
                        refine cw_region ?_
                        refine wl_val rfl (ex_move rfl) ?_
                        refine wl_val rfl (ex_move rfl) ?_
                        refine wl_val rfl (ex_indexAddr (n := k) rfl rfl Tryd.elem22 (by omega)) ?_
                        refine wl_val rfl (ex_fieldAddr rfl Tryd.fld41_2) ?_
                        refine wl_val rfl (ex_load1 rfl Tryd.agg4 ((hc1.evo hE38 (by simp)) 2 _ rfl)) ?_
                        refine wl_val rfl (ex_move rfl) ?_
                        refine wl_splitb (t := 127) rfl (fun hs127 => ?_) (fun hs127 => ?_)
                        · skip
                          refine wl_go rfl rfl rfl rfl ?_
                          refine wl_val rfl (ex_move rfl) ?_
                          refine wl_go rfl rfl rfl rfl ?_
                          refine wl_val rfl (ex_move rfl) ?_
                          refine wl_go rfl rfl rfl rfl ?_
                          refine wl_val rfl (ex_indexAddr (n := k) rfl rfl Tryd.elem22 (by omega)) ?_
                          refine wl_go rfl rfl rfl rfl ?_
                          refine wl_val rfl (ex_fieldAddr rfl Tryd.fld41_1) ?_
                          refine wl_go rfl rfl rfl rfl ?_
                          refine wl_val rfl (ex_load1 rfl Tryd.agg39 ((hc1.evo hE38 (by simp)) 1 _ rfl)) ?_
                          refine wl_go rfl rfl rfl rfl ?_
                          have hv0 := canon_zero hk' hs127
                          rw [hv0]
                          refine wl_val rfl (ex_fneq rfl rfl) ?_
                          rw [show (FloatKind.f64.format.order 0 0 != some .eq) = false from by kernel_rfl]
                          refine wl_go rfl rfl rfl rfl ?_
                          refine wl_val rfl (ex_move rfl) ?_
                          refine wl_go rfl rfl rfl rfl ?_
                          refine wl_val rfl (ex_move rfl) ?_
                          refine wl_go rfl rfl rfl rfl ?_
                          refine wl_val rfl (ex_move rfl) ?_
                          refine wl_go rfl rfl rfl rfl ?_
                          refine wl_val rfl (ex_indexAddr (n := k) rfl rfl Tryd.elem22 (by omega)) ?_
                          refine wl_go rfl rfl rfl rfl ?_
                          refine wl_val rfl (ex_fieldAddr rfl Tryd.fld41_1) ?_
                          refine wl_go rfl rfl rfl rfl ?_
                          refine wl_val rfl (ex_load1 rfl Tryd.agg39 ((hc1.evo hE38 (by simp)) 1 _ rfl)) ?_
                          refine wl_go rfl rfl rfl rfl ?_
                          refine wl_val rfl (ex_fquo (r := 9218868437227405312) rfl rfl (by rw [hv0]; exact one_zero)) ?_
                          refine wl_go rfl rfl rfl rfl ?_
                          refine wl_val rfl (ex_flss rfl rfl) ?_
                          rw [show (FloatKind.f64.format.order 9218868437227405312 0 == some .lt) = false from by kernel_rfl]
                          refine wl_go rfl rfl rfl rfl ?_
                          refine wl_val rfl (ex_pick_f rfl rfl) ?_
                          refine wl_val rfl (ex_pick_t rfl rfl) ?_
                          refine wl_nil (nrm_then ?_)
                          refine cw_false rfl ?_
                          refine cw_skip (nrm_block (nrm_then ?_))
                          refine cw_region ?_
                          refine wl_val rfl (ex_move rfl) ?_
                          refine wl_val rfl (ex_add_i64 rfl rfl (by omega) (by omega)) ?_
                          refine wl_val rfl (ex_assign rfl) ?_
                          refine wl_nil (nrm_then ?_)
                          refine ⟨k + 1, ?_, ⟨rfl, trivial⟩, ⟨rfl, trivial⟩, hV34, ?_⟩
                          · omega
                          · skip
                            exact (by omega)
                        · skip
                          refine wl_no rfl rfl rfl rfl rfl rfl ?_
                          refine wl_no rfl rfl rfl rfl rfl rfl ?_
                          refine wl_no rfl rfl rfl rfl rfl rfl ?_
                          refine wl_no rfl rfl rfl rfl rfl rfl ?_
                          refine wl_no rfl rfl rfl rfl rfl rfl ?_
                          refine wl_no rfl rfl rfl rfl rfl rfl ?_
                          refine wl_no rfl rfl rfl rfl rfl rfl ?_
                          refine wl_nou rfl rfl rfl rfl rfl ?_
                          refine wl_nou rfl rfl rfl rfl rfl ?_
                          refine wl_nou rfl rfl rfl rfl rfl ?_
                          refine wl_nou rfl rfl rfl rfl rfl ?_
                          refine wl_nou rfl rfl rfl rfl rfl ?_
                          refine wl_nou rfl rfl rfl rfl rfl ?_
                          refine wl_nou rfl rfl rfl rfl rfl ?_
                          refine wl_no rfl rfl rfl rfl rfl rfl ?_
                          refine wl_val rfl (ex_pick_f rfl rfl) ?_
                          refine wl_nil (nrm_then ?_)
                          refine cw_false rfl ?_
                          refine cw_skip (nrm_block (nrm_then ?_))
                          refine cw_region ?_
                          refine wl_val rfl (ex_move rfl) ?_
                          refine wl_val rfl (ex_add_i64 rfl rfl (by omega) (by omega)) ?_
                          refine wl_val rfl (ex_assign rfl) ?_
                          refine wl_nil (nrm_then ?_)
                          refine ⟨k + 1, ?_, ⟨rfl, trivial⟩, ⟨rfl, trivial⟩, hV34, ?_⟩
                          · omega
                          · skip
                            exact (by omega)
                      · skip
                        refine cw_exit (ex_then (ex_then (ex_here (nrm_then ?_))))
                        refine cw_seq ?_
                        refine cw_region ?_
                        refine wl_val rfl (ex_assign rfl) ?_
                        refine wl_nil (nrm_then ?_)
                        refine cw_ret (body_ret1 rfl rfl ?_)
                        exact ⟨rfl, hE35⟩
  · skip
    refine wl_no rfl rfl rfl rfl rfl rfl ?_
    refine wl_no rfl rfl rfl rfl rfl rfl ?_
    refine wl_no rfl rfl rfl rfl rfl rfl ?_
    refine wl_nou rfl rfl rfl rfl rfl ?_
    refine wl_nou rfl rfl rfl rfl rfl ?_
    refine wl_nou rfl rfl rfl rfl rfl ?_
    refine wl_no rfl rfl rfl rfl rfl rfl ?_
    refine wl_val rfl (ex_pick_f rfl rfl) ?_
    refine wl_nil (nrm_then ?_)
    refine cw_false rfl ?_
    refine cw_skip (nrm_then ?_)
    refine cw_seq ?_
    refine cw_seq ?_
    refine cw_region ?_
    refine wl_val rfl (ex_move rfl) ?_
    refine wl_val rfl (ex_eql rfl rfl) ?_
    refine wl_nil (nrm_then ?_)
    refine cw_if rfl (fun hc35 => ?_) (fun hc35 => ?_)
    · skip
      refine cw_seq ?_
      refine cw_region ?_
      refine wl_val rfl (ex_move rfl) ?_
      refine wl_call1 (vs := [_]) Tryd.goes13 rfl (pack_ok (RSl.evo RSmp.pers (Evo.refl [] w4) hs1) (by omega) (ht.evo hE6 (by simp))) rfl ?_
      rintro _ w39 ⟨v2, bs2, e2, rfl, hs2, hP2, hw40⟩
      have hE41 := hE6.then hw40
      have hE42 := (Evo.refl [] w4).then hw40
      have hgd := upk_good hU1 (by omega)
      obtain ⟨rfl, hpk2⟩ := pack_valid hgd.1 hP2
      obtain rfl : bs2 = bs := PacksN.uniq hpk2 hgd.2
      refine wl_val rfl (ex_move rfl) ?_
      refine wl_val rfl (ex_extract rfl rfl) ?_
      refine wl_val rfl (ex_extract rfl rfl) ?_
      refine wl_val rfl (ex_assign rfl) ?_
      refine wl_val rfl (ex_assign rfl) ?_
      refine wl_nil (nrm_then ?_)
      refine cw_seq ?_
      refine cw_region ?_
      refine wl_val rfl (ex_move rfl) ?_
      refine wl_val rfl (ex_neq rfl rfl) ?_
      refine wl_val rfl (ex_move rfl) ?_
      refine wl_split (t := 43) rfl (fun hs43 => ?_) (fun hs43 => ?_)
      · skip
        exfalso; omega
      · skip
        refine wl_go rfl rfl rfl rfl ?_
        refine wl_val rfl (ex_move rfl) ?_
        refine wl_go rfl rfl rfl rfl ?_
        refine wl_val rfl (ex_move rfl) ?_
        refine wl_go rfl rfl rfl rfl ?_
        refine wl_call1 (vs := [_, _]) Tryd.goes14 rfl (same_ok (RSl.evo RB.pers (Evo.refl [] w39) hs2) (RSl.evo RB.pers ((hE41).any _) hsb)) rfl ?_
        rintro _ w43 ⟨rfl, hw44⟩
        have hE45 := hE41.then hw44
        have hE46 := hE42.then hw44
        have hE47 := (Evo.refl [] w39).then hw44
        refine wl_go rfl rfl rfl rfl ?_
        refine wl_val rfl (ex_not rfl) ?_
        refine wl_val rfl (ex_pick_f rfl rfl) ?_
        refine wl_val rfl (ex_move rfl) ?_
        refine wl_split (t := 49) rfl (fun hs49 => ?_) (fun hs49 => ?_)
        · skip
          exact absurd rfl hs49
        · skip
          refine wl_go rfl rfl rfl rfl ?_
          refine wl_val rfl (ex_move rfl) ?_
          refine wl_go rfl rfl rfl rfl ?_
          refine wl_val rfl (ex_len_slice rfl Tryd.underlying22 rfl) ?_
          refine wl_go rfl rfl rfl rfl ?_
          refine wl_val rfl (ex_gtr rfl rfl) ?_
          refine wl_val rfl (ex_pick_f rfl rfl) ?_
          refine wl_val rfl (ex_move rfl) ?_
          refine wl_split (t := 54) rfl (fun hs54 => ?_) (fun hs54 => ?_)
          · skip
            exfalso; omega
          · skip
            refine wl_go rfl rfl rfl rfl ?_
            refine wl_val rfl (ex_move rfl) ?_
            refine wl_go rfl rfl rfl rfl ?_
            refine wl_call1 (vs := [_]) Tryd.goes18 rfl (rising_ok (RSl.evo RSmp.pers hE46 hs1) (by omega)) rfl ?_
            rintro _ w48 ⟨⟨b5, rfl, hb5⟩, hw49⟩
            have hE50 := hE45.then hw49
            have hE51 := hE46.then hw49
            have hE52 := hE47.then hw49
            obtain rfl : b5 = true := hb5.2 hgd.1.up
            refine wl_go rfl rfl rfl rfl ?_
            refine wl_val rfl (ex_notb rfl) ?_
            refine wl_val rfl (ex_pick_f rfl rfl) ?_
            refine wl_nil (nrm_then ?_)
            refine cw_false rfl ?_
            refine cw_skip (nrm_then ?_)
            refine cw_seq ?_
            refine cw_region ?_
            refine wl_val rfl (ex_move rfl) ?_
            refine wl_call1 (vs := [_]) Tryd.goes13 rfl (pack_ok (RSl.evo RSmp.pers ((hE50).any _) hsa) (by omega) (ht.evo hE50 (by simp))) rfl ?_
            rintro _ w53 ⟨v3, bs3, e3, rfl, hs3, hP3, hw54⟩
            have hE55 := hE50.then hw54
            have hE56 := hE51.then hw54
            have hE57 := hE52.then hw54
            have hs3' := hs3
            obtain ⟨a3, c3, rfl, -, -⟩ := hs3'
            refine wl_val rfl (ex_move rfl) ?_
            refine wl_val rfl (ex_extract rfl rfl) ?_
            refine wl_val rfl (ex_extract rfl rfl) ?_
            refine wl_val rfl (ex_assign rfl) ?_
            refine wl_val rfl (ex_assign rfl) ?_
            refine wl_nil (nrm_then ?_)
            refine cw_seq ?_
            refine cw_seq ?_
            refine cw_region ?_
            refine wl_val rfl (ex_move rfl) ?_
            refine wl_val rfl (ex_len_slice rfl Tryd.underlying22 rfl) ?_
            refine wl_val rfl (ex_gtr rfl rfl) ?_
            refine wl_nil (nrm_then ?_)
            refine cw_if rfl (fun hc66 => ?_) (fun hc66 => ?_)
            · skip
              obtain ⟨rfl, rfl⟩ := pack_long hP3 (by omega)
              refine cw_seq ?_
              refine cw_region ?_
              refine wl_val rfl (ex_move rfl) ?_
              refine wl_val rfl (ex_eql rfl rfl) ?_
              refine wl_val rfl (ex_move rfl) ?_
              refine wl_split (t := 69) rfl (fun hs69 => ?_) (fun hs69 => ?_)
              · skip
                refine wl_go rfl rfl rfl rfl ?_
                refine wl_val rfl (ex_move rfl) ?_
                refine wl_go rfl rfl rfl rfl ?_
                refine wl_val rfl (ex_len_slice rfl Tryd.underlying24 rfl) ?_
                refine wl_go rfl rfl rfl rfl ?_
                refine wl_val rfl (ex_eql rfl rfl) ?_
                refine wl_val rfl (ex_pick_t rfl rfl) ?_
                refine wl_val rfl (ex_assign rfl) ?_
                refine wl_nil (nrm_then ?_)
                refine cw_ret (ret_then (body_ret1 rfl rfl ?_))
                exact ⟨by simp, hE55⟩
              · skip
                refine wl_no rfl rfl rfl rfl rfl rfl ?_
                refine wl_no rfl rfl rfl rfl rfl rfl ?_
                refine wl_no rfl rfl rfl rfl rfl rfl ?_
                refine wl_val rfl (ex_pick_f rfl rfl) ?_
                refine wl_val rfl (ex_assign rfl) ?_
                refine wl_nil (nrm_then ?_)
                refine cw_ret (ret_then (body_ret1 rfl rfl ?_))
                exact absurd rfl hs69
            · skip
              refine cw_skip (nrm_then ?_)
              refine cw_seq ?_
              refine cw_seq ?_
              refine cw_region ?_
              refine wl_val rfl (ex_move rfl) ?_
              refine wl_call1 (vs := [_]) Tryd.goes18 rfl (rising_ok (RSl.evo RSmp.pers ((hE55).any _) hsa) (by omega)) rfl ?_
              rintro _ w58 ⟨⟨b6, rfl, hb6⟩, hw59⟩
              have hE60 := hE55.then hw59
              have hE61 := hE56.then hw59
              have hE62 := hE57.then hw59
              have hE63 := (Evo.refl [] w53).then hw59
              refine wl_val rfl (ex_notb rfl) ?_
              refine wl_nil (nrm_then ?_)
              refine cw_ifb rfl (fun hc76 => ?_) (fun hc76 => ?_)
              · skip
                obtain ⟨rfl, rfl⟩ := pack_wild hP3 (by omega) (fun h => by rw [hb6.2 h] at hc76; cases hc76)
                refine cw_seq ?_
                refine cw_region ?_
                refine wl_val rfl (ex_move rfl) ?_
                refine wl_val rfl (ex_eql rfl rfl) ?_
                refine wl_val rfl (ex_move rfl) ?_
                refine wl_split (t := 79) rfl (fun hs79 => ?_) (fun hs79 => ?_)
                · skip
                  refine wl_go rfl rfl rfl rfl ?_
                  refine wl_val rfl (ex_move rfl) ?_
                  refine wl_go rfl rfl rfl rfl ?_
                  refine wl_val rfl (ex_len_slice rfl Tryd.underlying24 rfl) ?_
                  refine wl_go rfl rfl rfl rfl ?_
                  refine wl_val rfl (ex_eql rfl rfl) ?_
                  refine wl_val rfl (ex_pick_t rfl rfl) ?_
                  refine wl_val rfl (ex_assign rfl) ?_
                  refine wl_nil (nrm_then ?_)
                  refine cw_ret (ret_then (body_ret1 rfl rfl ?_))
                  exact ⟨by simp, hE60⟩
                · skip
                  refine wl_no rfl rfl rfl rfl rfl rfl ?_
                  refine wl_no rfl rfl rfl rfl rfl rfl ?_
                  refine wl_no rfl rfl rfl rfl rfl rfl ?_
                  refine wl_val rfl (ex_pick_f rfl rfl) ?_
                  refine wl_val rfl (ex_assign rfl) ?_
                  refine wl_nil (nrm_then ?_)
                  refine cw_ret (ret_then (body_ret1 rfl rfl ?_))
                  exact absurd rfl hs79
              · skip
                have hva : Valid l := ⟨by omega, hb6.1 (by simpa using hc76), hoka⟩
                obtain ⟨rfl, hpk3⟩ := pack_valid hva hP3
                have hfl := form_len l
                refine cw_skip (nrm_then ?_)
                refine cw_seq ?_
                refine cw_region ?_
                refine wl_val rfl (ex_move rfl) ?_
                refine wl_call1 (vs := [_]) Tryd.goes17 rfl (unpack_ok (RSl.evo RB.pers hE63 hs3) (by rw [hpk3.len]; omega) (ht.evo hE60 (by simp))) rfl ?_
                rintro _ w64 ⟨v4, t4, h4, rfl, hs4, hU4, hw65⟩
                have hE66 := hE60.then hw65
                have hE67 := hE61.then hw65
                have hE68 := hE62.then hw65
                have hE69 := hE63.then hw65
                obtain ⟨rfl, rfl⟩ := UnpackIs.back hva hpk3 hU4
                have hs4' := hs4
                obtain ⟨a4, c4, rfl, -, -⟩ := hs4'
                refine wl_val rfl (ex_move rfl) ?_
                refine wl_val rfl (ex_extract rfl rfl) ?_
                refine wl_val rfl (ex_extract rfl rfl) ?_
                refine wl_val rfl (ex_assign rfl) ?_
                refine wl_val rfl (ex_assign rfl) ?_
                refine wl_nil (nrm_then ?_)
                refine cw_seq ?_
                refine cw_region ?_
                refine wl_val rfl (ex_move rfl) ?_
                refine wl_call1 (vs := [_]) Tryd.goes19 rfl (count_ok (RSl.evo RB.pers hE69 hs3) (by rw [hpk3.len]; omega) (ht.evo hE66 (by simp))) rfl ?_
                rintro _ w70 ⟨t5, h5, rfl, hU5, hw71⟩
                have hE72 := hE66.then hw71
                have hE73 := hE67.then hw71
                have hE74 := hE68.then hw71
                have hE75 := hE69.then hw71
                have hE76 := (Evo.refl [] w64).then hw71
                obtain ⟨rfl, rfl⟩ := UnpackIs.back hva hpk3 hU5
                refine wl_val rfl (ex_move rfl) ?_
                refine wl_val rfl (ex_extract rfl rfl) ?_
                refine wl_val rfl (ex_extract rfl rfl) ?_
                refine wl_val rfl (ex_assign rfl) ?_
                refine wl_val rfl (ex_assign rfl) ?_
                refine wl_nil (nrm_then ?_)
                refine cw_seq ?_
                refine cw_seq ?_
                refine cw_region ?_
                refine wl_val rfl (ex_move rfl) ?_
                refine wl_val rfl (ex_neq rfl rfl) ?_
                refine wl_val rfl (ex_move rfl) ?_
                refine wl_split (t := 96) rfl (fun hs96 => ?_) (fun hs96 => ?_)
                · skip
                  exfalso; omega
                · skip
                  refine wl_go rfl rfl rfl rfl ?_
                  refine wl_val rfl (ex_move rfl) ?_
                  refine wl_go rfl rfl rfl rfl ?_
                  refine wl_val rfl (ex_neq rfl rfl) ?_
                  refine wl_val rfl (ex_pick_f rfl rfl) ?_
                  refine wl_val rfl (ex_move rfl) ?_
                  refine wl_split (t := 100) rfl (fun hs100 => ?_) (fun hs100 => ?_)
                  · skip
                    exfalso; omega
                  · skip
                    refine wl_go rfl rfl rfl rfl ?_
                    refine wl_val rfl (ex_move rfl) ?_
                    refine wl_go rfl rfl rfl rfl ?_
                    refine wl_val rfl (ex_neq rfl rfl) ?_
                    refine wl_val rfl (ex_pick_f rfl rfl) ?_
                    refine wl_val rfl (ex_move rfl) ?_
                    refine wl_split (t := 104) rfl (fun hs104 => ?_) (fun hs104 => ?_)
                    · skip
                      exfalso; omega
                    · skip
                      refine wl_go rfl rfl rfl rfl ?_
                      refine wl_val rfl (ex_move rfl) ?_
                      refine wl_go rfl rfl rfl rfl ?_
                      refine wl_val rfl (ex_move rfl) ?_
                      refine wl_go rfl rfl rfl rfl ?_
                      refine wl_val rfl (ex_len_slice rfl Tryd.underlying22 rfl) ?_
                      refine wl_go rfl rfl rfl rfl ?_
                      refine wl_val rfl (ex_neq rfl rfl) ?_
                      refine wl_val rfl (ex_pick_f rfl rfl) ?_
                      refine wl_val rfl (ex_move rfl) ?_
                      refine wl_split (t := 110) rfl (fun hs110 => ?_) (fun hs110 => ?_)
                      · skip
                        simp at hs110
                      · skip
                        refine wl_go rfl rfl rfl rfl ?_
                        refine wl_val rfl (ex_move rfl) ?_
                        refine wl_go rfl rfl rfl rfl ?_
                        refine wl_val rfl (ex_move rfl) ?_
                        refine wl_go rfl rfl rfl rfl ?_
                        refine wl_call1 (vs := [_, _, _]) Tryd.goes20 rfl (alike_ok (RSl.evo RSmp.pers hE76 hs4) (RSl.evo RSmp.pers ((hE72).any _) hsa) (canon_alike l) (by simp; omega)) rfl ?_
                        rintro _ w77 ⟨rfl, hw78⟩
                        have hE79 := hE72.then hw78
                        have hE80 := hE73.then hw78
                        have hE81 := hE74.then hw78
                        have hE82 := hE75.then hw78
                        have hE83 := hE76.then hw78
                        refine wl_go rfl rfl rfl rfl ?_
                        refine wl_val rfl (ex_notb rfl) ?_
                        refine wl_val rfl (ex_pick_f rfl rfl) ?_
                        refine wl_nil (nrm_then ?_)
                        refine cw_false rfl ?_
                        refine cw_skip (nrm_then ?_)
                        refine cw_seq ?_
                        refine cw_seq ?_
                        refine cw_region ?_
                        refine wl_val rfl (ex_assign rfl) ?_
                        refine wl_nil (nrm_then ?_)
                        refine cw_block ?_
                        refine cw_loop (α := Nat) (0) (fun k => [(15, .int .i64 (k : Nat))]) [(11, _)] (fun k wr => Evo [] w77 wr ∧ (k ≤ (l.map canon).length)) (fun k => (l.map canon).length - k) ⟨rfl, trivial⟩ ⟨rfl, trivial⟩ ⟨Evo.refl _ _, Nat.zero_le _⟩ ?_
                        rintro k wr84 ⟨hV85, hk⟩
                        show CW _ _ _ _ [(15, _), (11, _)] _
                        have hE86 := hE79.then hV85
                        have hE87 := hE80.then hV85
                        have hE88 := hE81.then hV85
                        have hE89 := hE82.then hV85
                        have hE90 := hE83.then hV85
                        refine cw_seq ?_
                        refine cw_seq ?_
                        refine cw_region ?_
                        refine wl_val rfl (ex_move rfl) ?_
                        refine wl_val rfl (ex_move rfl) ?_
                        refine wl_val rfl (ex_len_slice rfl Tryd.underlying22 rfl) ?_
                        refine wl_val rfl (ex_lss rfl rfl) ?_
                        refine wl_nil (nrm_then ?_)
                        refine cw_if rfl (fun hc119 => ?_) (fun hc119 => ?_)
                        · skip
                          have hk' : k < (l.map canon).length := by omega
                          obtain ⟨_, b1, o1, rfl, -, hc1⟩ := smp_at hs4 hk'
                          refine cw_skip (nrm_then ?_)
                          refine cw_seq ?_
                          refine cw_block ?_
                          refine cw_seq ?_
                          refine cw_region ?_
                          refine wl_val rfl (ex_move rfl) ?_
                          refine wl_val rfl (ex_move rfl) ?_
                          refine wl_val rfl (ex_indexAddr (n := k) rfl rfl Tryd.elem22 (by omega)) ?_
                          refine wl_val rfl (ex_fieldAddr rfl Tryd.fld41_2) ?_
                          refine wl_val rfl (ex_load1 rfl Tryd.agg4 ((hc1.evo hE90 (by simp)) 2 _ rfl)) ?_
                          refine wl_val rfl (ex_move rfl) ?_
                          refine wl_splitb (t := 127) rfl (fun hs127 => ?_) (fun hs127 => ?_)
                          · skip
                            refine wl_go rfl rfl rfl rfl ?_
                            refine wl_val rfl (ex_move rfl) ?_
                            refine wl_go rfl rfl rfl rfl ?_
                            refine wl_val rfl (ex_move rfl) ?_
                            refine wl_go rfl rfl rfl rfl ?_
                            refine wl_val rfl (ex_indexAddr (n := k) rfl rfl Tryd.elem22 (by omega)) ?_
                            refine wl_go rfl rfl rfl rfl ?_
                            refine wl_val rfl (ex_fieldAddr rfl Tryd.fld41_1) ?_
                            refine wl_go rfl rfl rfl rfl ?_
                            refine wl_val rfl (ex_load1 rfl Tryd.agg39 ((hc1.evo hE90 (by simp)) 1 _ rfl)) ?_
                            refine wl_go rfl rfl rfl rfl ?_
                            have hv0 := canon_zero hk' hs127
                            rw [hv0]
                            refine wl_val rfl (ex_fneq rfl rfl) ?_
                            rw [show (FloatKind.f64.format.order 0 0 != some .eq) = false from by kernel_rfl]
                            refine wl_go rfl rfl rfl rfl ?_
                            refine wl_val rfl (ex_move rfl) ?_
                            refine wl_go rfl rfl rfl rfl ?_
                            refine wl_val rfl (ex_move rfl) ?_
                            refine wl_go rfl rfl rfl rfl ?_
                            refine wl_val rfl (ex_move rfl) ?_
                            refine wl_go rfl rfl rfl rfl ?_
                            refine wl_val rfl (ex_indexAddr (n := k) rfl rfl Tryd.elem22 (by omega)) ?_
                            refine wl_go rfl rfl rfl rfl ?_
                            refine wl_val rfl (ex_fieldAddr rfl Tryd.fld41_1) ?_
                            refine wl_go rfl rfl rfl rfl ?_
                            refine wl_val rfl (ex_load1 rfl Tryd.agg39 ((hc1.evo hE90 (by simp)) 1 _ rfl)) ?_
                            refine wl_go rfl rfl rfl rfl ?_
                            refine wl_val rfl (ex_fquo (r := 9218868437227405312) rfl rfl (by rw [hv0]; exact one_zero)) ?_
                            refine wl_go rfl rfl rfl rfl ?_
                            refine wl_val rfl (ex_flss rfl rfl) ?_
                            rw [show (FloatKind.f64.format.order 9218868437227405312 0 == some .lt) = false from by kernel_rfl]
                            refine wl_go rfl rfl rfl rfl ?_
                            refine wl_val rfl (ex_pick_f rfl rfl) ?_
                            refine wl_val rfl (ex_pick_t rfl rfl) ?_
                            refine wl_nil (nrm_then ?_)
                            refine cw_false rfl ?_
                            refine cw_skip (nrm_block (nrm_then ?_))
                            refine cw_region ?_
                            refine wl_val rfl (ex_move rfl) ?_
                            refine wl_val rfl (ex_add_i64 rfl rfl (by omega) (by omega)) ?_
                            refine wl_val rfl (ex_assign rfl) ?_
                            refine wl_nil (nrm_then ?_)
                            refine ⟨k + 1, ?_, ⟨rfl, trivial⟩, ⟨rfl, trivial⟩, hV85, ?_⟩
                            · omega
                            · skip
                              exact (by omega)
                          · skip
                            refine wl_no rfl rfl rfl rfl rfl rfl ?_
                            refine wl_no rfl rfl rfl rfl rfl rfl ?_
                            refine wl_no rfl rfl rfl rfl rfl rfl ?_
                            refine wl_no rfl rfl rfl rfl rfl rfl ?_
                            refine wl_no rfl rfl rfl rfl rfl rfl ?_
                            refine wl_no rfl rfl rfl rfl rfl rfl ?_
                            refine wl_no rfl rfl rfl rfl rfl rfl ?_
                            refine wl_nou rfl rfl rfl rfl rfl ?_
                            refine wl_nou rfl rfl rfl rfl rfl ?_
                            refine wl_nou rfl rfl rfl rfl rfl ?_
                            refine wl_nou rfl rfl rfl rfl rfl ?_
                            refine wl_nou rfl rfl rfl rfl rfl ?_
                            refine wl_nou rfl rfl rfl rfl rfl ?_
                            refine wl_nou rfl rfl rfl rfl rfl ?_
                            refine wl_no rfl rfl rfl rfl rfl rfl ?_
                            refine wl_val rfl (ex_pick_f rfl rfl) ?_
                            refine wl_nil (nrm_then ?_)
                            refine cw_false rfl ?_
                            refine cw_skip (nrm_block (nrm_then ?_))
                            refine cw_region ?_
                            refine wl_val rfl (ex_move rfl) ?_
                            refine wl_val rfl (ex_add_i64 rfl rfl (by omega) (by omega)) ?_
                            refine wl_val rfl (ex_assign rfl) ?_
                            refine wl_nil (nrm_then ?_)
                            refine ⟨k + 1, ?_, ⟨rfl, trivial⟩, ⟨rfl, trivial⟩, hV85, ?_⟩
                            · omega
                            · skip
                              exact (by omega)
                        · skip
                          refine cw_exit (ex_then (ex_then (ex_here (nrm_then ?_))))
                          refine cw_seq ?_
                          refine cw_region ?_
                          refine wl_val rfl (ex_assign rfl) ?_
                          refine wl_nil (nrm_then ?_)
                          refine cw_ret (body_ret1 rfl rfl ?_)
                          exact ⟨rfl, hE86⟩
    · skip
      exfalso; omega

set_option maxRecDepth 100000 in
theorem contract (H : Type) (enc : TypeId × Value → H) (W : World) (base : Nat) (args : Array Value) (ds gs : List (DataW H)) (before : List MemPlace)
    (hval : ∀ (j : Nat) t v, Tryd.f5.params[j]? = some t → args[j]? = some v → Value.okWide Tryd.prog W .any base t v)
    (hW : DataW.Whole enc Tryd.prog Tryd.f5.params.toList Rows.chunkBackSpec.vars false W args.toList ds gs before)
    (hsz : (DataW.weightsEach Tryd.prog (Tryd.f5.params.toList ++ Rows.chunkBackSpec.plain.varTypes Tryd.prog) (ds ++ gs)).all (· ≤ reachBytes) = true) (hL : laidMetH Tryd.prog laidL W) :
    Calls Tryd.prog 5 args W fun e W' => ∃ v, e = .returned v ∧ Rows.chunkBackSpec.post enc Tryd.prog Tryd.f5 false true false false W args v W' := by
  have hW' := hW
  obtain ⟨p, q, hA0, hV, rfl, hfz, hnd⟩ := hW
  have hA : DataW.TrodAll enc Tryd.prog W 0 (fun _ => true) true Tryd.f5.params.toList args.toList ds p := hA0
  rw [Tryd.params5] at hA hval hsz
  obtain ⟨v0, vs0, d0, ds0, p0, q0, hargs0, rfl, rfl, h0, r0⟩ := trodAll_cons hA
  obtain ⟨v1, vs1, d1, ds1, p1, q1, hargs1, rfl, rfl, h1, r1⟩ := trodAll_cons r0
  obtain ⟨hn1, rfl, rfl⟩ := trodAll_nil r1
  subst hn1
  subst hargs1
  obtain rfl : args = #[v0, v1] := by cases args; simp_all
  obtain ⟨rfl, rfl⟩ := trodVars_none hV
  have k0 := h0
  have k1 := h1
  obtain ⟨l0, hs0, hb0⟩ := came Tryd.underlying22 opens22 (hval 0 22 _ rfl rfl) h0 (fun n hn => by have := List.all_eq_true.1 hsz n (DataW.weights_mem_each (j := 0) rfl rfl n hn); simpa using this)
  obtain ⟨l1, hs1, hb1⟩ := came Tryd.underlying24 opens24 (hval 1 24 _ rfl rfl) h1 (fun n hn => by have := List.all_eq_true.1 hsz n (DataW.weights_mem_each (j := 1) rfl rfl n hn); simpa using this)
  have hT : Tab W := table hL
  refine (walk_ok hs0 hb0 hs1 hb1 hT).mono fun e W' ⟨v, he, hv, bel⟩ => ?_
  subst he hv
  exact ⟨_, rfl, _, _, _, [], _, [], hW', trodAll_mk1 (shut_bool Tryd.underlying4 _), (trodAll_cons_mk (Below.trod laidOut (by kernel_rfl) (of_decide_eq_true (by kernel_rfl)) k0 bel.below (trod_lt k0)) (trodAll_cons_mk (Below.trod laidOut (by kernel_rfl) (of_decide_eq_true (by kernel_rfl)) k1 bel.below (trod_lt k1)) trodAll_mk0)), rfl, bel.below.frame _, fun h => by cases h⟩
theorem laid_met (os : Os) : laidMet Tryd.prog laidL ((laidWorld os #[]).forCall (fun _ _ => 0) ⟨#[], #[.slice none 0 0, .slice none 0 0], []⟩).memory :=
  laidMet_of_run' 8 (by kernel_rfl) (by kernel_rfl)
theorem reads (os : Os) {H : Type} (enc : TypeId × Value → H) : ∃ places, DataW.whole enc Tryd.prog ((laidWorld os #[]).forCall (fun _ _ => 0) ⟨#[], #[.slice none 0 0, .slice none 0 0], []⟩).memory Tryd.f5.params.toList Rows.chunkBackSpec.vars false (#[.slice none 0 0, .slice none 0 0] : Array Value).toList 8 = some ([.nil, .nil], [], places) :=
  ⟨[], by kernel_rfl⟩
set_option maxRecDepth 100000 in
theorem lifted (os : Os) (started : os.Started) (H : Type) (enc : TypeId × Value → H) (F : Stop.Interp) :
    ReturnsInHanded {} Tryd.checked os 5 .any ((OpenSpec.ofChange Rows.chunkBackSpec).preRow enc Tryd.prog Tryd.f5 Rows.chunkBackRow.domain false Rows.chunkBackRow.laid) (((OpenSpec.ofChange Rows.chunkBackSpec).at F).post enc Tryd.prog Tryd.f5 false true false false) := by
  obtain ⟨places, hx⟩ := reads os enc
  refine returnsInHanded_of_row (C := Tryd.checked) (s := OpenSpec.ofChange Rows.chunkBackSpec) own started (by kernel_rfl) Tryd.func5
    (witness_row_at (enc := enc) (C := Tryd.checked) false (laidWorld os #[]) #[.slice none 0 0, .slice none 0 0] rfl (by kernel_rfl) (by kernel_rfl) (by kernel_rfl)
      (OpenSpec.preRow_of_cond 8 hx (by kernel_rfl) (fun k hk => by cases hk) (by kernel_rfl) (laid_met os))) ?_
  intro W base args ds gs before hval hW _ _ hsz hL _ _
  exact contract H enc W base args ds gs before hval hW hsz hL
theorem said : Rows.ChunkBackSaid :=
  OpenClaim.holds_of_cond 5 Tryd.f5 rfl rfl rfl rfl rfl rfl rfl ⟨rfl, rfl, rfl, rfl, rfl⟩ rfl rfl rfl rfl rfl (by kernel_rfl) Tryd.func5 (by kernel_rfl)
    (of_decide_eq_true (by kernel_rfl)) (by unfold Func.isWrapper; first | (rw [if_pos (by decide +kernel)]; kernel_rfl) | (rw [if_neg (by decide +kernel)]; exact ⟨rfl, rfl⟩))
    (fun os started H enc _ F => by rw [OpenClaim.pre_eq_preRow]; exact lifted os started H enc F)
theorem plain (f : FuncId) (fn : Func) (hf : Tryd.pinned.checked.prog.funcNamed "weir/weirlaw17.ChunkBack" = some f) (hfn : Tryd.pinned.checked.prog.funcs[f]? = some fn) :
    false = Tryd.pinned.checked.prog.looks [] ∧ ∀ (j : Nat) t, fn.params[j]? = some t → Tryd.pinned.checked.prog.wantsStandIn t = false := by
  obtain rfl : f = 5 := Option.some.inj ((show Tryd.prog.funcNamed "weir/weirlaw17.ChunkBack" = some 5 by kernel_rfl).symm.trans hf) |>.symm
  obtain rfl : fn = Tryd.f5 := (Option.some.inj (Tryd.func5.symm.trans hfn)).symm
  refine ⟨looks_off, fun j t ht => ?_⟩
  rw [Tryd.params5] at ht
  rcases j with _ | _ | j
  · obtain rfl : t = 22 := by simpa using ht.symm
    exact (show Tryd.prog.wantsStandIn 22 = false by kernel_rfl)
  · obtain rfl : t = 24 := by simpa using ht.symm
    exact (show Tryd.prog.wantsStandIn 24 = false by kernel_rfl)
  · simp at ht

theorem chunkBack_card : Rows.ChunkBackCardSaid :=
  Claim7.holds_tied_plain_at .later [] _ _ _ _ said (fun _ h => by cases h) (by kernel_rfl) (fun _ h => by cases h) chunkBack_row_tie rfl ⟨rfl, rfl⟩ (by kernel_rfl) rfl plain (by kernel_rfl)
#print axioms chunkBack_card

end Go.Proofs.YtclmkppiolfgbaaDoor
