import Derived.Test.YtclmkppiolfgbaaDoorKn
namespace Go.Proofs.YtclmkppiolfgbaaDoor
open Go.Proofs
open Go.W
attribute [local irreducible] Decidable.decide
set_option linter.unusedSimpArgs false
set_option linter.unusedVariables false
theorem Tryd.goes17 : Goes Tryd.prog 17 := ⟨_, Tryd.func17, by kernel_rfl, by kernel_rfl⟩
theorem Tryd.goes21 : Goes Tryd.prog 21 := ⟨_, Tryd.func21, by kernel_rfl, by kernel_rfl⟩
theorem Tryd.goes22 : Goes Tryd.prog 22 := ⟨_, Tryd.func22, by kernel_rfl, by kernel_rfl⟩
theorem Tryd.goes23 : Goes Tryd.prog 23 := ⟨_, Tryd.func23, by kernel_rfl, by kernel_rfl⟩


theorem nm4 {w : World} {bp : Nat} {ob : Option Nat} (ht : Tab w) (h2 : Ge w (some bp)) (h3 : Ge w ob) : 1 ∉ bp :: ob.toList := fun h => by
  rcases List.mem_cons.1 h with h | h
  · exact ht.ne h2 (by simp [h])
  · exact ht.ne h3 h
abbrev s1 : Smp := ⟨0, 0, true⟩
abbrev s5 : Smp := ⟨5, 0, false⟩
abbrev aliveB : List Nat := [0, 0, 128, 0, 0, 0, 0, 0, 0, 0, 112]
theorem s1_ok : s1.Ok := ⟨by decide, by decide⟩
theorem s5_ok : s5.Ok := ⟨by decide, by decide⟩
theorem one_ok {s : Smp} (h : s.Ok) : ∀ x, x ∈ [s] → x.Ok := fun x hx => by rw [List.mem_singleton.1 hx]; exact h
theorem one_up {s : Smp} : Rises [s] := fun k hk => by simp at hk
theorem one_valid {s : Smp} (h : s.Ok) : Valid [s] := ⟨by simp, one_up, one_ok h⟩
theorem alive_bits : (List.range 88).all (fun i => bitAt aliveB i == (form [s1]).getD i false) = true := by kernel_rfl
theorem alive_len : (form [s1]).length = 84 := by kernel_rfl
theorem alive_packs : Packs aliveB (form [s1]) := by
  refine ⟨by rw [alive_len]; rfl, fun b hb => ?_, fun i hi => ?_⟩
  · simp at hb; omega
  · rw [alive_len] at hi
    have := List.all_eq_true.1 alive_bits i (List.mem_range.2 (by omega))
    exact beq_iff_eq.1 this
theorem pack_alive {bs : List Nat} {e : Int} (h : PackIs [s1] bs e) : bs = aliveB ∧ e = 0 := by
  rcases h with ⟨h, _⟩ | ⟨_, h, _⟩ | ⟨_, _, h, he⟩
  · simp at h
  · exact absurd one_up h
  · exact ⟨PacksN.uniq h alive_packs, he⟩
theorem unpack_alive {out : List Smp} {e : Int} (h : UnpackIs aliveB out e) : out = [s1] ∧ e = 0 := by
  have := UnpackIs.back (one_valid s1_ok) alive_packs h
  exact ⟨this.2, this.1⟩
theorem unpack_nil {out : List Smp} {e : Int} (h : UnpackIs [] out e) : out = [] ∧ e = 171 := by
  rcases h with ⟨_, h2, _, h4⟩ | ⟨h1, h2, _⟩
  · have := h4.len
    simp only [List.length_nil, form, List.length_append, num_length] at this
    omega
  · exact ⟨h2, h1⟩
theorem add5 : addRes [] s5 = 0 ∧ addL [] s5 = [s5] := add_one (by simp) (by simp)
theorem add55 : addRes [s5] s5 = 170 ∧ addL [s5] s5 = [s5] := add_low (by simp) (by simp) (by rw [zaf_t (by simp)]; simp)
theorem rbs {X : List Nat} {w : World} {a : Option Addr} {n c : Nat} {l : List Nat} {ob : Option Nat} {e : TypeId} (h : OwnS w e 1 a n c (l.map bv) ob) (hb : ∀ b, b ∈ l → b < 256) (hx : ∀ g, ob = some g → g ∉ X) : RSl 1 RB X w (.slice a n c) l := own_rsl h hb hx


theorem alive_ok {w : World} (ht : Tab w) : Calls Tryd.prog 11 #[] w (Ret fun r w' => r = .bool true ∧ Evo [] w w') := by
  have hbl : aliveB.length = 11 := rfl
  have hol : [s1].length = 1 := rfl
  refine calls_of_cw (N := 74) Tryd.func11 rfl rfl rfl ?_
  refine cw_seq ?_
  refine cw_region ?_
  refine wl_val rfl (ex_assign rfl) ?_
  refine wl_nil (nrm_then ?_)
  refine cw_seq ?_
  refine cw_region ?_
  refine wl_val rfl (ex_build (vs := [(2, _)]) Tryd.build41 rfl (cells := [_, _, _]) rfl) ?_
  refine wl_bslice (vs := [_]) rfl Tryd.slice22 rfl rfl rfl rfl fun b1 w2 hO3 hs4 hw5 => ?_
  have hG6 := Ge.new (Evo.refl [] w) hs4
  have hE7 := (Evo.refl [] w).then hw5
  refine wl_call1 (vs := [_]) Tryd.goes13 rfl (pack_ok (X := []) (own_smp (l := [s1]) hO3 rfl (one_ok s1_ok) (fun _ _ => by simp)) (by simp) (ht.evo hE7 (by simp))) rfl ?_
  rintro _ w8 ⟨v1, bs1, e1, rfl, hs1, hP1, hw9⟩
  have hE10 := hE7.then hw9
  have hO11 := hO3.evo0 hw9
  obtain ⟨rfl, rfl⟩ := pack_alive hP1
  refine wl_val rfl (ex_move rfl) ?_
  refine wl_val rfl (ex_extract rfl rfl) ?_
  refine wl_val rfl (ex_extract rfl rfl) ?_
  refine wl_val rfl (ex_assign rfl) ?_
  refine wl_val rfl (ex_assign rfl) ?_
  refine wl_nil (nrm_then ?_)
  refine cw_seq ?_
  refine cw_region ?_
  refine wl_bslice (vs := [_, _, _, _, _, _, _, _, _, _, _]) rfl Tryd.slice24 rfl rfl rfl rfl fun b12 w13 hO14 hs15 hw16 => ?_
  have hG17 := Ge.new hE10 hs15
  have hG18 := Ge.new (Evo.refl [] w8) hs15
  have hE19 := hE10.then hw16
  have hE20 := (Evo.refl [] w8).then hw16
  refine wl_call1 (vs := [_]) Tryd.goes17 rfl (unpack_ok (X := []) (rbs (l := aliveB) hO14 (by simp) (fun _ _ => by simp)) (by simp) (ht.evo hE19 (by simp))) rfl ?_
  rintro _ w21 ⟨v2, bs2, e2, rfl, hs2, hP2, hw22⟩
  have hE23 := hE19.then hw22
  have hE24 := hE20.then hw22
  have hO25 := hO14.evo0 hw22
  obtain ⟨rfl, rfl⟩ := unpack_alive hP2
  refine wl_val rfl (ex_move rfl) ?_
  refine wl_val rfl (ex_extract rfl rfl) ?_
  refine wl_val rfl (ex_extract rfl rfl) ?_
  refine wl_val rfl (ex_assign rfl) ?_
  refine wl_val rfl (ex_assign rfl) ?_
  refine wl_nil (nrm_then ?_)
  refine cw_seq ?_
  refine cw_region ?_
  refine wl_call1 (vs := [_]) Tryd.goes17 rfl (unpack_ok (X := []) (rnil (R := RB)) (by simp) (ht.evo hE23 (by simp))) rfl ?_
  rintro _ w26 ⟨v3, bs3, e3, rfl, hs3, hP3, hw27⟩
  have hE28 := hE23.then hw27
  have hE29 := hE24.then hw27
  have hE30 := (Evo.refl [] w21).then hw27
  obtain ⟨rfl, rfl⟩ := unpack_nil hP3
  refine wl_val rfl (ex_move rfl) ?_
  refine wl_val rfl (ex_extract rfl rfl) ?_
  refine wl_val rfl (ex_extract rfl rfl) ?_
  refine wl_val rfl (ex_assign rfl) ?_
  refine wl_val rfl (ex_assign rfl) ?_
  refine wl_nil (nrm_then ?_)
  refine cw_seq ?_
  refine cw_seq ?_
  have h1e := RSl.evo RB.pers hE29 hs1
  have h2e := RSl.evo RSmp.pers hE30 hs2
  obtain ⟨a1, c1, rfl, _, _⟩ := hs1
  obtain ⟨a2, c2, rfl, _, _⟩ := hs2
  obtain ⟨b4, o4, rfl, -, hc4⟩ := byte_at h1e (k := 10) (by rw [hbl]; omega)
  obtain ⟨_, b5, o5, rfl, -, hc5⟩ := smp_at h2e (k := 0) (by rw [hol]; omega)
  have hb10 : aliveB.getD 10 0 = 112 := rfl
  refine cw_region ?_
  refine wl_val rfl (ex_move rfl) ?_
  refine wl_val rfl (ex_neq rfl rfl) ?_
  refine wl_val rfl (ex_move rfl) ?_
  refine wl_split (t := 25) rfl (fun hs25 => ?_) (fun hs25 => ?_)
  · skip
    exfalso; omega
  · skip
    refine wl_go rfl rfl rfl rfl ?_
    refine wl_val rfl (ex_move rfl) ?_
    refine wl_go rfl rfl rfl rfl ?_
    refine wl_val rfl (ex_neq rfl rfl) ?_
    refine wl_val rfl (ex_pick_f rfl rfl) ?_
    refine wl_val rfl (ex_move rfl) ?_
    refine wl_split (t := 29) rfl (fun hs29 => ?_) (fun hs29 => ?_)
    · skip
      exfalso; omega
    · skip
      refine wl_go rfl rfl rfl rfl ?_
      refine wl_val rfl (ex_move rfl) ?_
      refine wl_go rfl rfl rfl rfl ?_
      refine wl_val rfl (ex_neq rfl rfl) ?_
      refine wl_val rfl (ex_pick_f rfl rfl) ?_
      refine wl_val rfl (ex_move rfl) ?_
      refine wl_split (t := 33) rfl (fun hs33 => ?_) (fun hs33 => ?_)
      · skip
        exfalso; omega
      · skip
        refine wl_go rfl rfl rfl rfl ?_
        refine wl_val rfl (ex_move rfl) ?_
        refine wl_go rfl rfl rfl rfl ?_
        refine wl_val rfl (ex_len_slice rfl Tryd.underlying24 rfl) ?_
        refine wl_go rfl rfl rfl rfl ?_
        refine wl_val rfl (ex_neq rfl rfl) ?_
        refine wl_val rfl (ex_pick_f rfl rfl) ?_
        refine wl_val rfl (ex_move rfl) ?_
        refine wl_split (t := 38) rfl (fun hs38 => ?_) (fun hs38 => ?_)
        · skip
          exfalso; omega
        · skip
          refine wl_go rfl rfl rfl rfl ?_
          refine wl_val rfl (ex_move rfl) ?_
          refine wl_go rfl rfl rfl rfl ?_
          refine wl_val rfl (ex_indexAddrZ (n := 10) rfl rfl rfl Tryd.elem24 (by rw [hbl]; omega)) ?_
          refine wl_go rfl rfl rfl rfl ?_
          refine wl_val rfl (ex_load1 rfl Tryd.agg5 (hc4 0 _ rfl)) ?_
          refine wl_go rfl rfl rfl rfl ?_
          refine wl_val rfl (ex_neq rfl rfl) ?_
          refine wl_val rfl (ex_pick_f rfl rfl) ?_
          refine wl_val rfl (ex_move rfl) ?_
          refine wl_split (t := 44) rfl (fun hs44 => ?_) (fun hs44 => ?_)
          · skip
            exfalso; omega
          · skip
            refine wl_go rfl rfl rfl rfl ?_
            refine wl_val rfl (ex_move rfl) ?_
            refine wl_go rfl rfl rfl rfl ?_
            refine wl_val rfl (ex_len_slice rfl Tryd.underlying22 rfl) ?_
            refine wl_go rfl rfl rfl rfl ?_
            refine wl_val rfl (ex_neq rfl rfl) ?_
            refine wl_val rfl (ex_pick_f rfl rfl) ?_
            refine wl_val rfl (ex_move rfl) ?_
            refine wl_split (t := 49) rfl (fun hs49 => ?_) (fun hs49 => ?_)
            · skip
              exfalso; omega
            · skip
              refine wl_go rfl rfl rfl rfl ?_
              refine wl_val rfl (ex_move rfl) ?_
              refine wl_go rfl rfl rfl rfl ?_
              refine wl_val rfl (ex_indexAddrZ (n := 0) rfl rfl rfl Tryd.elem22 (by rw [hol]; omega)) ?_
              refine wl_go rfl rfl rfl rfl ?_
              refine wl_val rfl (ex_fieldAddr rfl Tryd.fld41_2) ?_
              refine wl_go rfl rfl rfl rfl ?_
              refine wl_val rfl (ex_load1 rfl Tryd.agg4 (hc5 2 _ rfl)) ?_
              refine wl_go rfl rfl rfl rfl ?_
              refine wl_val rfl (ex_notb rfl) ?_
              refine wl_val rfl (ex_pick_f rfl rfl) ?_
              refine wl_nil (nrm_then ?_)
              refine cw_ifb rfl (fun hc55 => ?_) (fun hc55 => ?_)
              · skip
                simp at hc55
              · skip
                refine cw_skip (nrm_then ?_)
                refine cw_seq ?_
                refine cw_region ?_
                refine wl_call1 (vs := []) Tryd.goes21 rfl (new_ok) rfl ?_
                rintro _ w31 ⟨bp, ob0, rfl, hp0, hw32, hgp, hgo⟩
                replace hgp := Ge.fresh hE28 hgp
                replace hgo := Ge.fresh hE28 hgo
                have hE33 := hE28.then hw32
                have hE34 := hE29.then hw32
                have hE35 := hE30.then hw32
                refine wl_val rfl (ex_assign rfl) ?_
                refine wl_nil (nrm_then ?_)
                refine cw_seq ?_
                refine cw_seq ?_
                refine cw_region ?_
                refine wl_val rfl (ex_move rfl) ?_
                refine wl_val rfl (ex_eqPs rfl rfl Tryd.ptr44) ?_
                refine wl_nil (nrm_then ?_)
                refine cw_false rfl ?_
                refine cw_skip (nrm_then ?_)
                refine cw_seq ?_
                refine cw_region ?_
                refine wl_val rfl (ex_move rfl) ?_
                refine wl_val rfl (ex_build (vs := [(0, _)]) Tryd.build41 rfl (cells := [_, _, _]) rfl) ?_
                refine wl_call1 (vs := [_, _]) Tryd.goes22 rfl (add_ok (s := s5) hp0 s5_ok (ht.evo hE33 (by simp)) (nm4 ht hgp hgo)) rfl ?_
                rintro _ w36 ⟨rfl, ob1, hp1, hw37, hb1⟩
                have hgo1 := ge_ob hgo hE33 hb1
                have hE38 := hE33.step hw37 (ge2 hgp hgo)
                rw [add5.2] at hp1
                refine wl_val rfl (ex_eql rfl rfl) ?_
                refine wl_val rfl (ex_move rfl) ?_
                refine wl_split (t := 63) rfl (fun hs63 => ?_) (fun hs63 => ?_)
                · skip
                  refine wl_go rfl rfl rfl rfl ?_
                  refine wl_val rfl (ex_move rfl) ?_
                  refine wl_go rfl rfl rfl rfl ?_
                  refine wl_val rfl (ex_build (vs := [(0, _)]) Tryd.build41 rfl (cells := [_, _, _]) rfl) ?_
                  refine wl_go rfl rfl rfl rfl ?_
                  refine wl_call1 (vs := [_, _]) Tryd.goes22 rfl (add_ok (s := s5) hp1 s5_ok (ht.evo hE38 (by simp)) (nm4 ht hgp hgo1)) rfl ?_
                  rintro _ w39 ⟨rfl, ob2, hp2, hw40, hb2⟩
                  have hgo2 := ge_ob hgo1 hE38 hb2
                  have hE41 := hE38.step hw40 (ge2 hgp hgo1)
                  rw [add55.2] at hp2
                  refine wl_go rfl rfl rfl rfl ?_
                  refine wl_val rfl (ex_eql rfl rfl) ?_
                  refine wl_val rfl (ex_pick_t rfl rfl) ?_
                  refine wl_val rfl (ex_move rfl) ?_
                  refine wl_split (t := 69) rfl (fun hs69 => ?_) (fun hs69 => ?_)
                  · skip
                    refine wl_go rfl rfl rfl rfl ?_
                    refine wl_val rfl (ex_move rfl) ?_
                    refine wl_go rfl rfl rfl rfl ?_
                    refine wl_call1 (vs := [_]) Tryd.goes23 rfl (len_ok (ds := [s5]) hp2) rfl ?_
                    rintro _ w42 ⟨rfl, hw43⟩
                    have hE44 := hE41.then hw43
                    refine wl_go rfl rfl rfl rfl ?_
                    refine wl_val rfl (ex_eql rfl rfl) ?_
                    refine wl_val rfl (ex_pick_t rfl rfl) ?_
                    refine wl_val rfl (ex_assign rfl) ?_
                    refine wl_nil (nrm_then ?_)
                    refine cw_ret (body_ret1 rfl rfl ?_)
                    exact ⟨by simp, hE44⟩
                  · skip
                    refine wl_no rfl rfl rfl rfl rfl rfl ?_
                    refine wl_no rfl rfl rfl rfl rfl rfl ?_
                    refine wl_no rfl rfl rfl rfl rfl rfl ?_
                    refine wl_val rfl (ex_pick_f rfl rfl) ?_
                    refine wl_val rfl (ex_assign rfl) ?_
                    refine wl_nil (nrm_then ?_)
                    refine cw_ret (body_ret1 rfl rfl ?_)
                    exact absurd add55.1 hs69
                · skip
                  refine wl_no rfl rfl rfl rfl rfl rfl ?_
                  refine wl_no rfl rfl rfl rfl rfl rfl ?_
                  refine wl_no rfl rfl rfl rfl rfl rfl ?_
                  refine wl_no rfl rfl rfl rfl rfl rfl ?_
                  refine wl_val rfl (ex_pick_f rfl rfl) ?_
                  refine wl_val rfl (ex_move rfl) ?_
                  refine wl_no rfl rfl rfl rfl rfl rfl ?_
                  refine wl_no rfl rfl rfl rfl rfl rfl ?_
                  refine wl_no rfl rfl rfl rfl rfl rfl ?_
                  refine wl_val rfl (ex_pick_f rfl rfl) ?_
                  refine wl_val rfl (ex_assign rfl) ?_
                  refine wl_nil (nrm_then ?_)
                  refine cw_ret (body_ret1 rfl rfl ?_)
                  exact absurd add5.1 hs63

end Go.Proofs.YtclmkppiolfgbaaDoor
