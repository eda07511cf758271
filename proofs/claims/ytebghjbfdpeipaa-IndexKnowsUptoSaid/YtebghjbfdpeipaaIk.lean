/- The walks of the reference's put, Sorted, And, Or, Without, and of the law's same. -/
import Derived.Test.YtebghjbfdpeipaaIj
namespace Go.Proofs.Ytebghjbfdpeipaa
open Go.Proofs
open Go.W
attribute [local irreducible] Decidable.decide
set_option linter.unusedSimpArgs false
set_option linter.unusedVariables false
theorem Try.goes39 : Goes Try.prog 39 := ⟨_, Try.func39, by kernel_rfl, by kernel_rfl⟩

theorem putRising_ok {w : World} {v : Value} {l : List Int} (h : RSl 1 RZ [] w v l) (hl : l.length ≤ 1000000000) (hs : SR l) :
    Calls Try.prog 21 #[v] w (Ret fun v' w' => v' = v ∧ Evo [] w w') := by
  refine calls_of_cw (N := 8) Try.func21 rfl rfl rfl ?_
  refine cw_seq ?_
  refine cw_region ?_
  refine wl_val rfl (ex_assign rfl) ?_
  refine wl_nil (nrm_then ?_)
  refine cw_seq ?_
  refine cw_seq ?_
  refine cw_region ?_
  refine wl_val rfl (ex_move rfl) ?_
  refine wl_call1 (vs := [_]) Try.goes39 rfl (isRising_ok h hl) rfl ?_
  rintro _ w1 ⟨rfl, hw2⟩
  have hE3 := (Evo.refl [] w).then hw2
  refine wl_nil (nrm_then ?_)
  refine cw_if rfl (fun hc4 => ?_) (fun hc4 => ?_)
  · skip
    refine cw_seq ?_
    refine cw_region ?_
    refine wl_val rfl (ex_move rfl) ?_
    refine wl_val rfl (ex_assign rfl) ?_
    refine wl_nil (nrm_then ?_)
    refine cw_ret (ret_then (body_ret1 rfl rfl ?_))
    exact ⟨rfl, hE3⟩
  · skip
    exact absurd hs hc4


def PutsIn (w : World) (v : Value) (l : List Int) : Prop := ∀ W, Evo [] w W → Calls Try.prog 21 #[v] W (Ret fun v' W' => ∃ r, RSl 1 RZ [] W' v' r ∧ SR r ∧ (∀ x, x ∈ r ↔ x ∈ l) ∧ r.length ≤ l.length ∧ Evo [] W W')
theorem puts_sr {w : World} {v : Value} {l : List Int} (h : RSl 1 RZ [] w v l) (hl : l.length ≤ 1000000000) (hs : SR l) : PutsIn w v l := fun W he => by
  refine (putRising_ok (rz_any h he) hl hs).mono ?_
  rintro e W' ⟨v', rfl, rfl, h2⟩
  exact ⟨_, rfl, l, rz_any h (he.then h2), hs, fun _ => Iff.rfl, Nat.le_refl _, h2⟩

theorem refAnd_of {w : World} {va vb : Value} {la lb : List Int} (hpa : PutsIn w va la) (hpb : PutsIn w vb lb) (hla : la.length ≤ 100000000) (hlb : lb.length ≤ 100000000) :
    Calls Try.prog 7 #[va, vb] w (Ret fun v w' => ∃ r, Res w w' v r ∧ SR r ∧ (∀ x, x ∈ r ↔ x ∈ la ∧ x ∈ lb) ∧ r.length ≤ la.length + lb.length) := by
  refine calls_of_cw (N := 10) Try.func7 rfl rfl rfl ?_
  refine cw_seq ?_
  refine cw_region ?_
  refine wl_val rfl (ex_assign rfl) ?_
  refine wl_nil (nrm_then ?_)
  refine cw_seq ?_
  refine cw_region ?_
  refine wl_val rfl (ex_move rfl) ?_
  refine wl_call1 (vs := [_]) Try.goes21 rfl (hpa w (Evo.refl [] w)) rfl ?_
  rintro v1 w1 ⟨r1, hr1, hs1, hm1, hl1, hw2⟩
  have hE3 := (Evo.refl [] w).then hw2
  refine wl_val rfl (ex_move rfl) ?_
  refine wl_call1 (vs := [_]) Try.goes21 rfl (hpb w1 hE3) rfl ?_
  rintro v2 w4 ⟨r2, hr2, hs2, hm2, hl2, hw5⟩
  have hE6 := hE3.then hw5
  have hE7 := (Evo.refl [] w1).then hw5
  refine wl_call1 (vs := [_, _, _, _, _]) Try.goes20 rfl (merge_ok (rz_any hr1 hE7) hr2 (by omega) (by omega)) rfl ?_
  rintro _ w8 ⟨a, c, ob, rfl, hO, hG, hw9⟩
  have hG10 := Ge.fresh hE6 hG
  have hG11 := Ge.fresh hE7 hG
  have hE12 := hE6.then hw9
  have hE13 := hE7.then hw9
  refine wl_val rfl (ex_assign rfl) ?_
  refine wl_nil (nrm_then ?_)
  refine cw_ret (body_ret1 rfl rfl ?_)
  have hml := mg_len (fa := false) (fab := true) (fb := false) _ r1 r2 (Nat.le_refl _)
  exact ⟨_, ⟨a, c, ob, rfl, hO, hG10, hE12⟩, mg_sr _ r1 r2 (Nat.le_refl _) hs1 hs2, fun x => by rw [mg_mem _ r1 r2 (Nat.le_refl _) hs1 hs2 x, hm1 x, hm2 x]; simp, by omega⟩

theorem refOr_of {w : World} {va vb : Value} {la lb : List Int} (hpa : PutsIn w va la) (hpb : PutsIn w vb lb) (hla : la.length ≤ 100000000) (hlb : lb.length ≤ 100000000) :
    Calls Try.prog 8 #[va, vb] w (Ret fun v w' => ∃ r, Res w w' v r ∧ SR r ∧ (∀ x, x ∈ r ↔ x ∈ la ∨ x ∈ lb) ∧ r.length ≤ la.length + lb.length) := by
  refine calls_of_cw (N := 10) Try.func8 rfl rfl rfl ?_
  refine cw_seq ?_
  refine cw_region ?_
  refine wl_val rfl (ex_assign rfl) ?_
  refine wl_nil (nrm_then ?_)
  refine cw_seq ?_
  refine cw_region ?_
  refine wl_val rfl (ex_move rfl) ?_
  refine wl_call1 (vs := [_]) Try.goes21 rfl (hpa w (Evo.refl [] w)) rfl ?_
  rintro v1 w1 ⟨r1, hr1, hs1, hm1, hl1, hw2⟩
  have hE3 := (Evo.refl [] w).then hw2
  refine wl_val rfl (ex_move rfl) ?_
  refine wl_call1 (vs := [_]) Try.goes21 rfl (hpb w1 hE3) rfl ?_
  rintro v2 w4 ⟨r2, hr2, hs2, hm2, hl2, hw5⟩
  have hE6 := hE3.then hw5
  have hE7 := (Evo.refl [] w1).then hw5
  refine wl_call1 (vs := [_, _, _, _, _]) Try.goes20 rfl (merge_ok (rz_any hr1 hE7) hr2 (by omega) (by omega)) rfl ?_
  rintro _ w8 ⟨a, c, ob, rfl, hO, hG, hw9⟩
  have hG10 := Ge.fresh hE6 hG
  have hG11 := Ge.fresh hE7 hG
  have hE12 := hE6.then hw9
  have hE13 := hE7.then hw9
  refine wl_val rfl (ex_assign rfl) ?_
  refine wl_nil (nrm_then ?_)
  refine cw_ret (body_ret1 rfl rfl ?_)
  have hml := mg_len (fa := true) (fab := true) (fb := true) _ r1 r2 (Nat.le_refl _)
  exact ⟨_, ⟨a, c, ob, rfl, hO, hG10, hE12⟩, mg_sr _ r1 r2 (Nat.le_refl _) hs1 hs2, fun x => by rw [mg_mem _ r1 r2 (Nat.le_refl _) hs1 hs2 x, hm1 x, hm2 x]; simp <;> grind, by omega⟩

theorem refWithout_of {w : World} {va vb : Value} {la lb : List Int} (hpa : PutsIn w va la) (hpb : PutsIn w vb lb) (hla : la.length ≤ 100000000) (hlb : lb.length ≤ 100000000) :
    Calls Try.prog 9 #[va, vb] w (Ret fun v w' => ∃ r, Res w w' v r ∧ SR r ∧ (∀ x, x ∈ r ↔ x ∈ la ∧ ¬ x ∈ lb) ∧ r.length ≤ la.length + lb.length) := by
  refine calls_of_cw (N := 10) Try.func9 rfl rfl rfl ?_
  refine cw_seq ?_
  refine cw_region ?_
  refine wl_val rfl (ex_assign rfl) ?_
  refine wl_nil (nrm_then ?_)
  refine cw_seq ?_
  refine cw_region ?_
  refine wl_val rfl (ex_move rfl) ?_
  refine wl_call1 (vs := [_]) Try.goes21 rfl (hpa w (Evo.refl [] w)) rfl ?_
  rintro v1 w1 ⟨r1, hr1, hs1, hm1, hl1, hw2⟩
  have hE3 := (Evo.refl [] w).then hw2
  refine wl_val rfl (ex_move rfl) ?_
  refine wl_call1 (vs := [_]) Try.goes21 rfl (hpb w1 hE3) rfl ?_
  rintro v2 w4 ⟨r2, hr2, hs2, hm2, hl2, hw5⟩
  have hE6 := hE3.then hw5
  have hE7 := (Evo.refl [] w1).then hw5
  refine wl_call1 (vs := [_, _, _, _, _]) Try.goes20 rfl (merge_ok (rz_any hr1 hE7) hr2 (by omega) (by omega)) rfl ?_
  rintro _ w8 ⟨a, c, ob, rfl, hO, hG, hw9⟩
  have hG10 := Ge.fresh hE6 hG
  have hG11 := Ge.fresh hE7 hG
  have hE12 := hE6.then hw9
  have hE13 := hE7.then hw9
  refine wl_val rfl (ex_assign rfl) ?_
  refine wl_nil (nrm_then ?_)
  refine cw_ret (body_ret1 rfl rfl ?_)
  have hml := mg_len (fa := true) (fab := false) (fb := false) _ r1 r2 (Nat.le_refl _)
  exact ⟨_, ⟨a, c, ob, rfl, hO, hG10, hE12⟩, mg_sr _ r1 r2 (Nat.le_refl _) hs1 hs2, fun x => by rw [mg_mem _ r1 r2 (Nat.le_refl _) hs1 hs2 x, hm1 x, hm2 x]; simp, by omega⟩

theorem refSorted_step {w : World} {v : Value} {l : List Int} (h : RSl 1 RZ [] w v l) (hl : l.length ≤ 100000000)
    (ih : ∀ (l' : List Int) (v' : Value) (W : World), l'.length < l.length → RSl 1 RZ [] W v' l' → Calls Try.prog 40 #[v'] W (Ret fun v' w' => ∃ r, Res W w' v' r ∧ SR r ∧ (∀ x, x ∈ r ↔ x ∈ l') ∧ r.length ≤ l'.length)) :
    Calls Try.prog 40 #[v] w (Ret fun v' w' => ∃ r, Res w w' v' r ∧ SR r ∧ (∀ x, x ∈ r ↔ x ∈ l) ∧ r.length ≤ l.length) := by
  have h0 := h
  obtain ⟨a, c, rfl, hc, -⟩ := h
  refine calls_of_cw (N := 22) Try.func40 rfl rfl rfl ?_
  refine cw_seq ?_
  refine cw_region ?_
  refine wl_val rfl (ex_assign rfl) ?_
  refine wl_nil (nrm_then ?_)
  refine cw_seq ?_
  refine cw_seq ?_
  refine cw_region ?_
  refine wl_val rfl (ex_move rfl) ?_
  refine wl_val rfl (ex_len_slice rfl Try.underlying22 rfl) ?_
  refine wl_val rfl (ex_lss rfl rfl) ?_
  refine wl_nil (nrm_then ?_)
  refine cw_if rfl (fun hc5 => ?_) (fun hc5 => ?_)
  · skip
    refine cw_seq ?_
    refine cw_region ?_
    refine wl_bslice (vs := []) rfl Try.slice22 rfl rfl rfl rfl fun b1 w2 hO3 hs4 hw5 => ?_
    have hG6 := Ge.new (Evo.refl [] w) hs4
    have hE7 := (Evo.refl [] w).then hw5
    refine wl_val rfl (ex_move rfl) ?_
    refine wl_append rfl rfl rfl rfl Try.app22_22 hO3 (src_rz h0 ((hE7).any [])) (by omega) fun a8 c8 w10 ob8 hO8 hw13 hob14 => ?_
    have hG15 := hG6.app hE7 hob14
    have hE16 := hE7.step hw13 hG6.mem
    refine wl_val rfl (ex_assign rfl) ?_
    refine wl_nil (nrm_then ?_)
    refine cw_ret (ret_then (body_ret1 rfl rfl ?_))
    refine ⟨l, ⟨a8, c8, ob8, by rw [Nat.zero_add], by have h9 := hO8; rw [Nat.zero_add] at h9; exact h9, hG15, hE16⟩, ?_, fun _ => Iff.rfl, Nat.le_refl _⟩
    have h9 := sr_short (l := l) (k := 1) (Nat.le_refl _)
    rwa [List.take_of_length_le (by omega)] at h9
  · skip
    refine cw_skip (nrm_then ?_)
    refine cw_seq ?_
    refine cw_any (fun w0 w' => Evo [] w0 w') (by kernel_rfl) (fun w17 hw18 => ?_)
    have hE19 := (Evo.refl [] w).then hw18
    refine ae_take 0 rfl (by kernel_rfl) (by kernel_rfl) (by kernel_rfl) rfl (fun _ hS => ex_move rfl) (Evo.refl [] w17) ?_
    refine ae_take 1 rfl (by kernel_rfl) (by kernel_rfl) (by kernel_rfl) rfl (fun _ hS => ex_move rfl) (Evo.refl [] w17) ?_
    refine ae_take 2 rfl (by kernel_rfl) (by kernel_rfl) (by kernel_rfl) rfl (fun _ hS => ex_len_slice rfl Try.underlying22 rfl) (Evo.refl [] w17) ?_
    refine ae_take 3 rfl (by kernel_rfl) (by kernel_rfl) (by kernel_rfl) rfl (fun _ hS => ex_quoN (m := l.length) (n := 2) rfl rfl rfl rfl (by decide) (by simp [IntKind.max, IntKind.signed, IntKind.bits]; omega)) (Evo.refl [] w17) ?_
    refine ae_take 4 rfl (by kernel_rfl) (by kernel_rfl) (by kernel_rfl) rfl (fun _ hS => ex_sliceTo (h := l.length / 2) rfl rfl Try.underlying22 Try.size3 rfl (by omega) hc) (Evo.refl [] w17) ?_
    refine ae_take 6 rfl (by kernel_rfl) (by kernel_rfl) (by kernel_rfl) rfl (fun _ hS => ex_move rfl) (Evo.refl [] w17) ?_
    refine ae_take 7 rfl (by kernel_rfl) (by kernel_rfl) (by kernel_rfl) rfl (fun _ hS => ex_move rfl) (Evo.refl [] w17) ?_
    refine ae_take 8 rfl (by kernel_rfl) (by kernel_rfl) (by kernel_rfl) rfl (fun _ hS => ex_len_slice rfl Try.underlying22 rfl) (Evo.refl [] w17) ?_
    refine ae_take 9 rfl (by kernel_rfl) (by kernel_rfl) (by kernel_rfl) rfl (fun _ hS => ex_quoN (m := l.length) (n := 2) rfl rfl rfl rfl (by decide) (by simp [IntKind.max, IntKind.signed, IntKind.bits]; omega)) (Evo.refl [] w17) ?_
    refine ae_take 10 rfl (by kernel_rfl) (by kernel_rfl) (by kernel_rfl) rfl (fun _ hS => ex_sliceFrom (l := l.length / 2) rfl rfl Try.underlying22 Try.size3 rfl (by omega) hc) (Evo.refl [] w17) ?_
    refine ae_loud [5] (by kernel_rfl) rfl ⟨?_, trivial⟩
    refine a_step rfl ?_
    refine wl_call1 (vs := [_]) Try.goes40 rfl (ih (l.take (l.length / 2)) _ w17 (by rw [List.length_take]; omega) (rz_to (rz_any h0 hE19) (by omega))) rfl ?_
    rintro _ w20 ⟨r1, ⟨a1, c1, ob1, rfl, hO1, hG1, hw21⟩, hs1, hm1, hl1⟩
    have hG22 := Ge.fresh hE19 hG1
    have hG23 := Ge.fresh (Evo.refl [] w17) hG1
    have hE24 := hE19.then hw21
    have hE25 := (Evo.refl [] w17).then hw21
    refine wl_nil (ae_next (.inl hE25) ?_)
    refine ae_loud [11] (by kernel_rfl) rfl ⟨?_, trivial⟩
    refine a_step rfl ?_
    refine wl_call1 (vs := [_]) Try.goes40 rfl (ih (l.drop (l.length / 2)) _ w20 (by rw [List.length_drop]; omega) (by have h9 := rz_from (rz_any h0 hE24) (i := l.length / 2) (by omega); rw [List.length_drop] at h9; exact h9)) rfl ?_
    rintro _ w26 ⟨r2, ⟨a2, c2, ob2, rfl, hO2, hG2, hw27⟩, hs2, hm2, hl2⟩
    have hA28 := Apart.fresh (Lt.own hO1) hG2
    have hG29 := Ge.fresh hE24 hG2
    have hG30 := Ge.fresh hE25 hG2
    have hE31 := hE24.then hw27
    have hE32 := hE25.then hw27
    have hO33 := hO1.evo0 hw27
    refine wl_nil (ae_next (.inl hE32) ?_)
    refine ae_loud [12] (by kernel_rfl) rfl ⟨?_, trivial⟩
    refine a_step rfl ?_
    refine wl_call1 (vs := [_, _]) Try.goes8 rfl (refOr_of (puts_sr (own_rz hO33 (fun _ _ h => by cases h)) (by rw [List.length_take] at hl1; omega) hs1) (puts_sr (own_rz hO2 (fun _ _ h => by cases h)) (by rw [List.length_drop] at hl2; omega) hs2) (by rw [List.length_take] at hl1; omega) (by rw [List.length_drop] at hl2; omega)) rfl ?_
    rintro _ w34 ⟨r, ⟨a9, c9, ob9, rfl, hO9, hG9, hw35⟩, hs9, hm9, hl9⟩
    have hA36 := Apart.fresh (Lt.own hO33) hG9
    have hA37 := Apart.fresh (Lt.own hO2) hG9
    have hG38 := Ge.fresh hE31 hG9
    have hG39 := Ge.fresh hE32 hG9
    have hE40 := hE31.then hw35
    have hE41 := hE32.then hw35
    have hO42 := hO33.evo0 hw35
    have hO43 := hO2.evo0 hw35
    refine wl_nil (ae_next (.inl hE41) ?_)
    refine ae_take 13 rfl (by kernel_rfl) (by kernel_rfl) (by kernel_rfl) rfl (fun _ hS => ex_assign rfl) hE41 ?_
    refine ae_done (by kernel_rfl) (nrm_then ?_)
    refine cw_ret (body_ret1 rfl rfl ?_)
    refine ⟨r, ⟨a9, c9, ob9, rfl, hO9, hG38, hE40⟩, hs9, fun x => ?_, by rw [List.length_take] at hl1; rw [List.length_drop] at hl2; omega⟩
    rw [hm9 x, hm1 x, hm2 x, ← List.mem_append, List.take_append_drop]


theorem refSorted_ok : ∀ (n : Nat) (l : List Int) (v : Value) (w : World), l.length ≤ n → n ≤ 100000000 → RSl 1 RZ [] w v l → Calls Try.prog 40 #[v] w (Ret fun v' w' => ∃ r, Res w w' v' r ∧ SR r ∧ (∀ x, x ∈ r ↔ x ∈ l) ∧ r.length ≤ l.length) := by
  intro n
  induction n with
  | zero => intro l v w hn _ h; exact refSorted_step h (by omega) fun l' _ _ hlt => by omega
  | succ n ih => intro l v w hn hb h; exact refSorted_step h (by omega) fun l' v' W hlt h' => ih l' v' W (by omega) (by omega) h'

theorem put_ok {w : World} {v : Value} {l : List Int} (h : RSl 1 RZ [] w v l) (hl : l.length ≤ 100000000) :
    Calls Try.prog 21 #[v] w (Ret fun v' W' => ∃ r, RSl 1 RZ [] W' v' r ∧ SR r ∧ (∀ x, x ∈ r ↔ x ∈ l) ∧ r.length ≤ l.length ∧ Evo [] w W') := by
  refine calls_of_cw (N := 8) Try.func21 rfl rfl rfl ?_
  refine cw_seq ?_
  refine cw_region ?_
  refine wl_val rfl (ex_assign rfl) ?_
  refine wl_nil (nrm_then ?_)
  refine cw_seq ?_
  refine cw_seq ?_
  refine cw_region ?_
  refine wl_val rfl (ex_move rfl) ?_
  refine wl_call1 (vs := [_]) Try.goes39 rfl (isRising_ok h (by omega)) rfl ?_
  rintro _ w1 ⟨rfl, hw2⟩
  have hE3 := (Evo.refl [] w).then hw2
  refine wl_nil (nrm_then ?_)
  refine cw_if rfl (fun hc4 => ?_) (fun hc4 => ?_)
  · skip
    refine cw_seq ?_
    refine cw_region ?_
    refine wl_val rfl (ex_move rfl) ?_
    refine wl_val rfl (ex_assign rfl) ?_
    refine wl_nil (nrm_then ?_)
    refine cw_ret (ret_then (body_ret1 rfl rfl ?_))
    exact ⟨l, rz_any h hE3, hc4, fun _ => Iff.rfl, Nat.le_refl _, hE3⟩
  · skip
    refine cw_skip (nrm_then ?_)
    refine cw_seq ?_
    refine cw_region ?_
    refine wl_val rfl (ex_move rfl) ?_
    refine wl_call1 (vs := [_]) Try.goes40 rfl (refSorted_ok l.length l _ w1 (Nat.le_refl _) hl (rz_any h hE3)) rfl ?_
    rintro _ w4 ⟨r, ⟨a, c, ob, rfl, hO, hG, hw5⟩, hs, hm, hlr⟩
    have hG6 := Ge.fresh hE3 hG
    have hE7 := hE3.then hw5
    refine wl_val rfl (ex_assign rfl) ?_
    refine wl_nil (nrm_then ?_)
    refine cw_ret (body_ret1 rfl rfl ?_)
    exact ⟨r, own_rz hO (fun _ _ h => by cases h), hs, hm, hlr, hE7⟩


theorem puts_ok {w : World} {v : Value} {l : List Int} (h : RSl 1 RZ [] w v l) (hl : l.length ≤ 100000000) : PutsIn w v l := fun W he => put_ok (rz_any h he) hl

theorem same_ok {X Y : List Nat} {w : World} {v1 v2 : Value} {d1 d2 : List Int} (h1 : RSl 1 RZ X w v1 d1) (h2 : RSl 1 RZ Y w v2 d2) (hl : d1.length ≤ 140737488355328) (hl' : d2.length ≤ 140737488355328) :
    Calls Try.prog 5 #[v1, v2] w (Ret fun v w' => v = .bool (decide (d1 = d2)) ∧ Evo [] w w') := by
  obtain ⟨a1, c1, rfl, hlc1, e1⟩ := h1
  obtain ⟨a2, c2, rfl, hlc2, e2⟩ := h2
  refine calls_of_cw (N := 26) Try.func5 rfl rfl rfl ?_
  refine cw_seq ?_
  refine cw_region ?_
  refine wl_val rfl (ex_assign rfl) ?_
  refine wl_nil (nrm_then ?_)
  refine cw_seq ?_
  refine cw_seq ?_
  refine cw_region ?_
  refine wl_val rfl (ex_move rfl) ?_
  refine wl_val rfl (ex_len_slice rfl Try.underlying22 rfl) ?_
  refine wl_val rfl (ex_move rfl) ?_
  refine wl_val rfl (ex_len_slice rfl Try.underlying22 rfl) ?_
  refine wl_val rfl (ex_neq rfl rfl) ?_
  refine wl_nil (nrm_then ?_)
  refine cw_if rfl (fun hc10 => ?_) (fun hc10 => ?_)
  · skip
    refine cw_seq ?_
    refine cw_region ?_
    refine wl_val rfl (ex_assign rfl) ?_
    refine wl_nil (nrm_then ?_)
    refine cw_ret (ret_then (body_ret1 rfl rfl ?_))
    exact ⟨congrArg Value.bool (decide_eq_false (fun h => hc10 (by rw [h]))).symm, (Evo.refl [] w)⟩
  · skip
    refine cw_skip (nrm_then ?_)
    refine cw_seq ?_
    refine cw_seq ?_
    refine cw_region ?_
    refine wl_val rfl (ex_assign rfl) ?_
    refine wl_nil (nrm_then ?_)
    refine cw_block ?_
    refine cw_loop (α := Nat) (0) (fun k => [(5, .int .i64 (k : Nat))]) [(0, _), (1, _)] (fun k wr => Evo [] w wr ∧ (k ≤ d1.length ∧ d1.take k = d2.take k)) (fun k => d1.length - k) ⟨rfl, trivial⟩ ⟨rfl, rfl, trivial⟩ ⟨Evo.refl _ _, ⟨Nat.zero_le _, rfl⟩⟩ ?_
    rintro k wr1 ⟨hV2, ⟨hk, hpre⟩⟩
    show CW _ _ _ _ [(5, _), (0, _), (1, _)] _
    have hE3 := (Evo.refl [] w).then hV2
    refine cw_seq ?_
    refine cw_seq ?_
    refine cw_region ?_
    refine wl_val rfl (ex_move rfl) ?_
    refine wl_val rfl (ex_move rfl) ?_
    refine wl_val rfl (ex_len_slice rfl Try.underlying22 rfl) ?_
    refine wl_val rfl (ex_lss rfl rfl) ?_
    refine wl_nil (nrm_then ?_)
    refine cw_if rfl (fun hc14 => ?_) (fun hc14 => ?_)
    · skip
      obtain ⟨b1, o1, vs1, ha1, hb1, -, hc1, rfl⟩ := e1 k (by omega)
      obtain ⟨b2, o2, vs2, ha2, hb2, -, hc2, rfl⟩ := e2 k (by omega)
      refine cw_skip (nrm_then ?_)
      refine cw_seq ?_
      refine cw_block ?_
      refine cw_seq ?_
      refine cw_quiet (by kernel_rfl) (by kernel_rfl) ?_
      refine ql_val rfl (fun _ hq5 => ex_move rfl) ?_
      refine ql_val rfl (fun _ hq5 => ex_move rfl) ?_
      refine ql_val rfl (fun _ hq5 => ex_indexAddr (n := k) (by rw [ha1]; rfl) rfl Try.elem22 (by omega)) ?_
      refine ql_val rfl (fun _ hq5 => ex_load1 rfl Try.agg3 ((hc1.evo (((hE3.then hq5)).any X) hb1) 0 _ rfl)) ?_
      refine ql_val rfl (fun _ hq5 => ex_move rfl) ?_
      refine ql_val rfl (fun _ hq5 => ex_move rfl) ?_
      refine ql_val rfl (fun _ hq5 => ex_indexAddr (n := k) (by rw [ha2]; rfl) rfl Try.elem22 (by omega)) ?_
      refine ql_val rfl (fun _ hq5 => ex_load1 rfl Try.agg3 ((hc2.evo (((hE3.then hq5)).any Y) hb2) 0 _ rfl)) ?_
      refine ql_val rfl (fun _ hq5 => ex_neq rfl rfl) ?_
      refine ql_nil (fun wq4 hq5 => nrm_then ?_)
      have hE6 := hE3.then hq5
      have hE7 := hV2.then hq5
      refine cw_if rfl (fun hc25 => ?_) (fun hc25 => ?_)
      · skip
        refine cw_seq ?_
        refine cw_region ?_
        refine wl_val rfl (ex_assign rfl) ?_
        refine wl_nil (nrm_then ?_)
        refine cw_ret (ret_block (ret_then (ret_then (ret_block (ret_then (body_ret1 rfl rfl ?_))))))
        exact ⟨congrArg Value.bool (decide_eq_false (fun h => hc25 (by subst h; rfl))).symm, hE6⟩
      · skip
        refine cw_skip (nrm_block (nrm_then ?_))
        refine cw_region ?_
        refine wl_val rfl (ex_move rfl) ?_
        refine wl_val rfl (ex_add_i64 rfl rfl (by omega) (by omega)) ?_
        refine wl_val rfl (ex_assign rfl) ?_
        refine wl_nil (nrm_same ?_)
        refine ⟨k + 1, ?_, ⟨rfl, trivial⟩, ⟨rfl, rfl, trivial⟩, hE7, ?_⟩
        · omega
        · skip
          have h3 : d1[k] = d2[k] := by simpa using hc25
          exact ⟨by omega, by rw [List.take_succ_eq_append_getElem (by omega), List.take_succ_eq_append_getElem (by omega), hpre, h3]⟩
    · skip
      refine cw_exit (ex_then (ex_then (ex_here (nrm_then ?_))))
      refine cw_seq ?_
      refine cw_region ?_
      refine wl_val rfl (ex_assign rfl) ?_
      refine wl_nil (nrm_then ?_)
      refine cw_ret (body_ret1 rfl rfl ?_)
      exact ⟨congrArg Value.bool (decide_eq_true (by rw [List.take_of_length_le (by omega), List.take_of_length_le (by omega)] at hpre; exact hpre)).symm, hE3⟩

end Go.Proofs.Ytebghjbfdpeipaa
