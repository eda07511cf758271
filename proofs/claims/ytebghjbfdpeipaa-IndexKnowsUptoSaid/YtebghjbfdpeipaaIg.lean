/- The walks of Grow (at nil), Concat, And, Or, Without. -/
import Derived.Test.YtebghjbfdpeipaaIf
namespace Go.Proofs.Ytebghjbfdpeipaa
open Go.Proofs
open Go.W
attribute [local irreducible] Decidable.decide
set_option linter.unusedSimpArgs false
set_option linter.unusedVariables false
theorem Try.app22_22 : appB Try.prog 22 22 = some (3, 1, 8) := by kernel_rfl
theorem Try.elem67 : elemB Try.prog 67 = some 1 := by kernel_rfl
theorem Try.goes41 : Goes Try.prog 41 := ⟨_, Try.func41, by kernel_rfl, by kernel_rfl⟩


theorem own_cell1 {w : World} {e : TypeId} {a : Option Addr} {n c : Nat} {ys : List Value} {ob : Option Nat} (h : OwnS w e 1 a n c ys ob) {k : Nat} {v : Value} (hk : ys[k]? = some v) : ∃ g, ob = some g ∧ a = some ⟨g, 0, none⟩ ∧ w.cell? ⟨g, 0 + k * 1, none⟩ = some v := by
  have h1 := (List.getElem?_eq_some_iff.1 hk).1
  rw [h.1] at h1
  obtain ⟨g, hg, ha, hc⟩ := h.cells (by omega)
  exact ⟨g, hg, ha, by rw [Nat.mul_one]; exact hc k v hk⟩
theorem src_rz {X : List Nat} {w w' : World} {v : Value} {l : List Int} (h : RSl 1 RZ X w v l) (he : Evo X w w') : Src Try.prog w' 1 v l.length (l.map iv) := by
  obtain ⟨rows, hr, hs⟩ := h.rows (P := Try.prog) he RZ.one
  have : rows.flatten = l.map iv := by
    have e : rows = l.map fun z => [iv z] := by
      apply List.ext_getElem
      · simp [hr.1]
      · intro k h1 h2
        have := (hr.2 k (by simpa using h2) h1).2
        simp only [List.getElem_map]
        exact this
    rw [e]; clear e; clear hs hr h; induction l with | nil => rfl | cons z l ih => simpa using ih
  rw [← this]; exact hs
theorem rz_any {X : List Nat} {w w' : World} {v : Value} {l : List Int} (h : RSl 1 RZ X w v l) (he : Evo X w w') : RSl 1 RZ [] w' v l := (h.evo RZ.pers he).fresh (by decide) RZ.fresh (fun _ hy => by cases hy)
theorem sum_le : ∀ (ls : List (List Int)) (k : Nat), (ls.take k).flatten.length ≤ ls.flatten.length
  | [], k => by simp
  | l :: ls, 0 => by simp
  | l :: ls, k + 1 => by have := sum_le ls k; simp only [List.take_succ_cons, List.flatten_cons, List.length_append]; omega
theorem sum_step {ls : List (List Int)} {k : Nat} (hk : k < ls.length) : (ls.take (k + 1)).flatten = (ls.take k).flatten ++ ls[k] := by
  rw [List.take_succ_eq_append_getElem hk, List.flatten_append]; simp
structure CG where
  k : Nat
  ga : Option Addr
  gc : Nat
  gob : Option Nat

theorem grow_ok {w : World} {n : Nat} (hl : n ≤ 1000000000) :
    Calls Try.prog 41 #[.slice none 0 0, .int .i64 (n : Nat)] w (Ret fun v w' => ∃ a c ob, v = .slice a 0 c ∧ OwnS w' 3 1 a 0 c [] ob ∧ Ge w ob ∧ Evo [] w w') := by
  refine calls_of_cw (N := 27) Try.func41 rfl rfl rfl ?_
  refine cw_seq ?_
  refine cw_region ?_
  refine wl_val rfl (ex_assign rfl) ?_
  refine wl_nil (nrm_then ?_)
  refine cw_seq ?_
  refine cw_seq ?_
  refine cw_region ?_
  refine wl_val rfl (ex_move rfl) ?_
  refine wl_val rfl (ex_lss rfl rfl) ?_
  refine wl_nil (nrm_then ?_)
  refine cw_if rfl (fun hc6 => ?_) (fun hc6 => ?_)
  · skip
    exfalso; omega
  · skip
    refine cw_skip (nrm_then ?_)
    refine cw_seq ?_
    refine cw_seq ?_
    refine cw_region ?_
    refine wl_val rfl (ex_move rfl) ?_
    refine wl_val rfl (ex_move rfl) ?_
    refine wl_val rfl (ex_cap_slice rfl Try.underlying22 rfl) ?_
    refine wl_val rfl (ex_move rfl) ?_
    refine wl_val rfl (ex_len_slice rfl Try.underlying22 rfl) ?_
    refine wl_val rfl (ex_sub_i64 rfl rfl (by omega) (by omega)) ?_
    refine wl_val rfl (ex_sub_i64 rfl rfl (by omega) (by omega)) ?_
    refine wl_val rfl (ex_assign rfl) ?_
    refine wl_nil (nrm_then ?_)
    refine cw_seq ?_
    refine cw_region ?_
    refine wl_val rfl (ex_move rfl) ?_
    refine wl_val rfl (ex_gtr rfl rfl) ?_
    refine wl_nil (nrm_then ?_)
    refine cw_if rfl (fun hc16 => ?_) (fun hc16 => ?_)
    · skip
      refine cw_region ?_
      refine wl_val rfl (ex_move rfl) ?_
      refine wl_val rfl (ex_move rfl) ?_
      refine wl_val rfl (ex_cap_slice rfl Try.underlying22 rfl) ?_
      refine wl_val rfl (ex_ownTo (h := 0) (OwnS.nil w 3 1) rfl rfl Try.underlying22 Try.size3 rfl (by omega)) ?_
      refine wl_val rfl (ex_move rfl) ?_
      obtain ⟨i0, hi0, hz0, hz1, hz2⟩ := info_parts info3
      refine wl_appendZ (m := n) rfl rfl rfl rfl (by omega) (by omega) Try.underlying22 Try.underlying3 hi0 hz0 hz1 rfl (by omega) (by rw [hz2]; omega) fun gb c w9 hO9 hs9 hw9 => ?_
      have hg9 : Ge w (some gb) := Ge.new (Evo.refl [] w) hs9
      have hE1 := (Evo.refl [] w).then hw9
      refine wl_val rfl (ex_move rfl) ?_
      refine wl_val rfl (ex_len_slice rfl Try.underlying22 rfl) ?_
      refine wl_val rfl (ex_ownTo (h := 0) hO9 rfl rfl Try.underlying22 Try.size3 rfl (by omega)) ?_
      refine wl_val rfl (ex_assign rfl) ?_
      refine wl_nil (nrm_then ?_)
      refine cw_seq ?_
      refine cw_region ?_
      refine wl_val rfl (ex_move rfl) ?_
      refine wl_val rfl (ex_assign rfl) ?_
      refine wl_nil (nrm_then ?_)
      refine cw_ret (body_ret1 rfl rfl ?_)
      have h9 := (hO9).cut (Nat.zero_le n)
      rw [Nat.zero_mul, List.take_zero] at h9
      exact ⟨_, _, _, rfl, h9, hg9, hE1⟩
    · skip
      refine cw_skip (nrm_then ?_)
      refine cw_seq ?_
      refine cw_region ?_
      refine wl_val rfl (ex_move rfl) ?_
      refine wl_val rfl (ex_assign rfl) ?_
      refine wl_nil (nrm_then ?_)
      refine cw_ret (body_ret1 rfl rfl ?_)
      exact ⟨none, 0, none, rfl, OwnS.nil _ _ _, Ge.nil _, (Evo.refl [] w)⟩

theorem concat_ok {w : World} {a : Option Addr} {n c : Nat} {ob : Option Nat} {vs : List Value} {ls : List (List Int)} (hO : OwnS w 22 1 a n c vs ob) (hn : ls.length = n) (hv : ∀ k (hk : k < ls.length), RSl 1 RZ [] w (vs[k]?.getD undef) ls[k]) (hl : ls.flatten.length ≤ 100000000) (hn9 : n ≤ 1000) :
    Calls Try.prog 22 #[.slice a n c] w (Ret fun v w' => ∃ a' c' ob', v = .slice a' ls.flatten.length c' ∧ OwnS w' 3 1 a' ls.flatten.length c' (ls.flatten.map iv) ob' ∧ Ge w ob' ∧ Evo [] w w') := by
  have hvn := hO.length
  have hvg : ∀ k (hk : k < ls.length), ∃ va vc, vs[k]? = some (.slice va ls[k].length vc) ∧ vs[k]?.getD undef = .slice va ls[k].length vc := fun k hk => by
    obtain ⟨va, vc, h1, _⟩ := hv k hk
    rw [List.getElem?_eq_getElem (by omega)] at h1 ⊢
    exact ⟨va, vc, congrArg some h1, h1⟩
  refine calls_of_cw (N := 36) Try.func22 rfl rfl rfl ?_
  refine cw_seq ?_
  refine cw_region ?_
  refine wl_val rfl (ex_assign rfl) ?_
  refine wl_nil (nrm_then ?_)
  refine cw_seq ?_
  refine cw_region ?_
  refine wl_val rfl (ex_assign rfl) ?_
  refine wl_nil (nrm_then ?_)
  refine cw_seq ?_
  refine cw_seq ?_
  refine cw_region ?_
  refine wl_val rfl (ex_move rfl) ?_
  refine wl_val rfl (ex_len_slice rfl Try.underlying67 rfl) ?_
  refine wl_val rfl (ex_move rfl) ?_
  refine wl_nil (nrm_then ?_)
  refine cw_block ?_
  refine cw_loop (α := Nat) (0) (fun k => [(11, .int .i64 (k : Nat)), (3, .int .i64 ((ls.take k).flatten.length : Nat))]) [(0, _), (2, _), (9, _), (10, _)] (fun k wr => Evo [] w wr ∧ (k ≤ ls.length)) (fun k => ls.length - k) ⟨rfl, rfl, trivial⟩ ⟨rfl, rfl, rfl, rfl, trivial⟩ ⟨Evo.refl _ _, Nat.zero_le _⟩ ?_
  rintro k wr1 ⟨hV2, hk⟩
  show CW _ _ _ _ [(11, _), (3, _), (0, _), (2, _), (9, _), (10, _)] _
  have hE3 := (Evo.refl [] w).then hV2
  have hO4 := hO.evo0 hV2
  refine cw_seq ?_
  refine cw_region ?_
  refine wl_val rfl (ex_lss rfl rfl) ?_
  refine wl_nil (nrm_then ?_)
  refine cw_seq ?_
  refine cw_if rfl (fun hc12 => ?_) (fun hc12 => ?_)
  · skip
    have hk' : k < ls.length := by omega
    obtain ⟨va, vc, hvk, hvd⟩ := hvg k hk'
    obtain ⟨gb, hgb, ha, hc⟩ := own_cell1 hO4 hvk
    have hsl := sum_le ls k
    have hsl2 := sum_le ls (k + 1)
    have hss := congrArg List.length (sum_step hk')
    rw [List.length_append] at hss
    refine cw_skip (nrm_then ?_)
    refine cw_seq ?_
    refine cw_block ?_
    refine cw_seq ?_
    refine cw_region ?_
    refine wl_val rfl (ex_indexAddr (n := k) (by rw [ha]; rfl) rfl Try.elem67 (by omega)) ?_
    refine wl_val rfl (ex_load1 rfl Try.agg22 hc) ?_
    refine wl_val rfl (ex_assign rfl) ?_
    refine wl_nil (nrm_then ?_)
    refine cw_seq ?_
    refine cw_region ?_
    refine wl_val rfl (ex_move rfl) ?_
    refine wl_val rfl (ex_move rfl) ?_
    refine wl_val rfl (ex_len_slice rfl Try.underlying22 rfl) ?_
    refine wl_val rfl (ex_add_i64 rfl rfl (by omega) (by omega)) ?_
    refine wl_val rfl (ex_assign rfl) ?_
    refine wl_nil (nrm_then ?_)
    refine cw_seq ?_
    refine cw_region ?_
    refine wl_val rfl (ex_move rfl) ?_
    refine wl_val rfl (ex_lss rfl rfl) ?_
    refine wl_nil (nrm_then ?_)
    refine cw_if rfl (fun hc20 => ?_) (fun hc20 => ?_)
    · skip
      exfalso; omega
    · skip
      rw [show (((ls.take k).flatten.length : Nat) : Int) + (ls[k].length : Nat) = ((ls.take (k + 1)).flatten.length : Nat) by omega]
      refine cw_skip (nrm_block (nrm_then ?_))
      refine cw_region ?_
      refine wl_val rfl (ex_add_i64 rfl rfl (by omega) (by omega)) ?_
      refine wl_val rfl (ex_move rfl) ?_
      refine wl_nil (nrm_same ?_)
      refine ⟨k + 1, ?_, ⟨rfl, rfl, trivial⟩, ⟨rfl, rfl, rfl, rfl, trivial⟩, hV2, ?_⟩
      · omega
      · skip
        omega
  · skip
    have hk2 : k = ls.length := by omega
    subst hk2
    rw [List.take_length]
    refine cw_exit (ex_then (ex_then (ex_here (nrm_then ?_))))
    refine cw_seq ?_
    refine cw_region ?_
    refine wl_val rfl (ex_move rfl) ?_
    refine wl_call1 (vs := [_, _]) Try.goes41 rfl (grow_ok (n := ls.flatten.length) (by omega)) rfl ?_
    rintro _ w5 ⟨ga, gc, gob, rfl, hG, hGe, hw6⟩
    have hA7 := Apart.fresh (Lt.own hO4) hGe
    have hG8 := Ge.fresh hE3 hGe
    have hG9 := Ge.fresh hV2 hGe
    have hE10 := hE3.then hw6
    have hE11 := hV2.then hw6
    have hO12 := hO4.evo0 hw6
    refine wl_val rfl (ex_assign rfl) ?_
    refine wl_nil (nrm_then ?_)
    refine cw_seq ?_
    refine cw_seq ?_
    refine cw_region ?_
    refine wl_val rfl (ex_move rfl) ?_
    refine wl_val rfl (ex_len_slice rfl Try.underlying67 rfl) ?_
    refine wl_val rfl (ex_move rfl) ?_
    refine wl_nil (nrm_then ?_)
    refine cw_block ?_
    refine cw_loop (α := CG) (⟨0, ga, gc, gob⟩) (fun x => [(27, .int .i64 (x.k : Nat)), (6, .slice x.ga (ls.take x.k).flatten.length x.gc)]) [(2, _), (25, _), (26, _)] (fun x wr => Evo [] w wr ∧ (x.k ≤ ls.length ∧ OwnS wr 3 1 x.ga (ls.take x.k).flatten.length x.gc ((ls.take x.k).flatten.map iv) x.gob ∧ Ge w x.gob)) (fun x => ls.length - x.k) ⟨rfl, rfl, trivial⟩ ⟨rfl, rfl, rfl, trivial⟩ ⟨hE10, ⟨Nat.zero_le _, hG, hG8⟩⟩ ?_
    rintro ⟨k, ga, gc, gob⟩ wr13 ⟨hV14, ⟨hk, hG8, hGe8⟩⟩
    show CW _ _ _ _ [(27, .int .i64 (k : Nat)), (6, .slice ga (ls.take k).flatten.length gc), (2, _), (25, _), (26, _)] _
    try dsimp only at hk
    try dsimp only at hG8
    try dsimp only at hGe8
    have hL2 := hO.evo0 hV14
    have hLG : Apart ob gob := Apart.fresh (Lt.own hO) hGe8
    refine cw_seq ?_
    refine cw_region ?_
    refine wl_val rfl (ex_lss rfl rfl) ?_
    refine wl_nil (nrm_then ?_)
    refine cw_seq ?_
    refine cw_if rfl (fun hc28 => ?_) (fun hc28 => ?_)
    · skip
      have hk' : k < ls.length := by omega
      obtain ⟨va, vc, hvk, hvd⟩ := hvg k hk'
      have hvk9 := hv k hk'
      rw [hvd] at hvk9
      obtain ⟨gb, hgb, ha, hc⟩ := own_cell1 hL2 hvk
      have hsl := sum_le ls k
      have hsl2 := sum_le ls (k + 1)
      have hss := congrArg List.length (sum_step hk')
      rw [List.length_append] at hss
      refine cw_skip (nrm_then ?_)
      refine cw_seq ?_
      refine cw_block ?_
      refine cw_seq ?_
      refine cw_region ?_
      refine wl_val rfl (ex_indexAddr (n := k) (by rw [ha]; rfl) rfl Try.elem67 (by omega)) ?_
      refine wl_val rfl (ex_load1 rfl Try.agg22 hc) ?_
      refine wl_val rfl (ex_assign rfl) ?_
      refine wl_nil (nrm_then ?_)
      refine cw_region ?_
      refine wl_val rfl (ex_move rfl) ?_
      refine wl_val rfl (ex_move rfl) ?_
      refine wl_append rfl rfl rfl rfl Try.app22_22 hG8 (src_rz hvk9 ((hV14).any [])) (by omega) fun ga9 gc9 w17 gob9 hG9 hw20 hob21 => ?_
      have hA22 := hLG.app (Lt.own hL2) hob21
      have hG23 := hGe8.app hV14 hob21
      have hE24 := hV14.step hw20 hGe8.mem
      have hO25 := hL2.evo hw20 hLG.own
      rw [← hss]
      rw [← hss, ← List.map_append, ← sum_step hk'] at hG9
      refine wl_val rfl (ex_assign rfl) ?_
      refine wl_nil (nrm_block (nrm_then ?_))
      refine cw_region ?_
      refine wl_val rfl (ex_add_i64 rfl rfl (by omega) (by omega)) ?_
      refine wl_val rfl (ex_move rfl) ?_
      refine wl_nil (nrm_same ?_)
      refine ⟨⟨k + 1, ga9, gc9, gob9⟩, ?_, ⟨rfl, rfl, trivial⟩, ⟨rfl, rfl, rfl, trivial⟩, hE24, ?_⟩
      · (try dsimp only); omega
      · skip
        try dsimp only
        exact ⟨by omega, hG9, hG23⟩
    · skip
      refine cw_exit (ex_then (ex_then (ex_here (nrm_then ?_))))
      refine cw_seq ?_
      refine cw_region ?_
      refine wl_val rfl (ex_move rfl) ?_
      refine wl_val rfl (ex_assign rfl) ?_
      refine wl_nil (nrm_then ?_)
      refine cw_ret (body_ret1 rfl rfl ?_)
      have hk2 : k = ls.length := by omega
      subst hk2
      have h9 := hG8
      rw [List.take_length] at h9
      exact ⟨ga, gc, gob, by rw [List.take_length], h9, hGe8, hV14⟩

end Go.Proofs.Ytebghjbfdpeipaa
