/- The walks of And, Or, Without. -/
import Derived.Test.YtebghjbfdpeipaaIg
namespace Go.Proofs.Ytebghjbfdpeipaa
open Go.Proofs
open Go.W
attribute [local irreducible] Decidable.decide
set_option linter.unusedSimpArgs false
set_option linter.unusedVariables false
theorem Try.goes17 : Goes Try.prog 17 := ⟨_, Try.func17, by kernel_rfl, by kernel_rfl⟩
theorem Try.goes19 : Goes Try.prog 19 := ⟨_, Try.func19, by kernel_rfl, by kernel_rfl⟩
theorem Try.goes22 : Goes Try.prog 22 := ⟨_, Try.func22, by kernel_rfl, by kernel_rfl⟩
theorem Try.goes23 : Goes Try.prog 23 := ⟨_, Try.func23, by kernel_rfl, by kernel_rfl⟩
theorem Try.size41 : sizeB Try.prog 41 = some 1 := by kernel_rfl
theorem Try.slice67 : sliceB Try.prog 67 = some (22, 1) := by kernel_rfl
theorem Try.zero41 : zeroB Try.prog 41 = some #[.nilFunc] := by kernel_rfl


/-- A list in memory of the call's own. -/
def Res (w w' : World) (v : Value) (r : List Int) : Prop := ∃ a c ob, v = .slice a r.length c ∧ OwnS w' 3 1 a r.length c (r.map iv) ob ∧ Ge w ob ∧ Evo [] w w'

theorem and_ok {w : World} {va vb : Value} {la lb : List Int} (ha : RSl 1 RZ [] w va la) (hb : RSl 1 RZ [] w vb lb) (hla : la.length ≤ 10000000) (hlb : lb.length ≤ 10000000) :
    Calls Try.prog 6 #[va, vb] w (Ret fun v w' => ∃ r, Res w w' v r ∧ SR r ∧ (∀ x, x ∈ r ↔ x ∈ la ∧ x ∈ lb) ∧ r.length ≤ la.length + lb.length) := by
  refine calls_of_cw (N := 10) Try.func6 rfl rfl rfl ?_
  refine cw_seq ?_
  refine cw_region ?_
  refine wl_val rfl (ex_assign rfl) ?_
  refine wl_nil (nrm_then ?_)
  refine cw_seq ?_
  refine cw_region ?_
  refine wl_val rfl (ex_move rfl) ?_
  refine wl_call1 (vs := [_]) Try.goes18 rfl (rising_ok (rz_any ha ((Evo.refl [] w))) (by omega)) rfl ?_
  rintro _ w1 ⟨r, a, c, ob, rfl, hO, hG, hSR, hmem, hle, hw2⟩
  have hG3 := Ge.fresh (Evo.refl [] w) hG
  have hE4 := (Evo.refl [] w).then hw2
  refine wl_val rfl (ex_move rfl) ?_
  refine wl_call1 (vs := [_]) Try.goes19 rfl (missing_ok (rz_any hb (hE4)) (by omega)) rfl ?_
  rintro _ w5 ⟨cap, K, rfl, hAs, hKr, hw6⟩
  have hKL : ∀ k, k ∈ K → k ∉ ob.toList := fun k hk hm => by have h1 := (hKr k hk).1; have h2 := Lt.own hO k (by simpa using hm); omega
  have hE7 := hE4.then hw6
  have hO8 := hO.evo0 hw6
  refine wl_call1 (vs := [_, _]) Try.goes17 rfl (deleteFunc_ok Try.goes37 hO8 (by omega) hAs hKL) rfl ?_
  rintro _ w9 ⟨rfl, hS, hw10⟩
  have hE11 := hE7.step hw10 hG3.mem
  refine wl_val rfl (ex_assign rfl) ?_
  refine wl_nil (nrm_then ?_)
  refine cw_ret (body_ret1 rfl rfl ?_)
  have hf := List.length_filter_le (fun x => !decide (¬ x ∈ lb)) r
  exact ⟨_, ⟨a, c, ob, rfl, hS, hG3, hE11⟩, hSR.filter _, fun x => by rw [List.mem_filter, hmem x]; simp, by omega⟩

theorem without_ok {w : World} {va vb : Value} {la lb : List Int} (ha : RSl 1 RZ [] w va la) (hb : RSl 1 RZ [] w vb lb) (hla : la.length ≤ 10000000) (hlb : lb.length ≤ 10000000) :
    Calls Try.prog 11 #[va, vb] w (Ret fun v w' => ∃ r, Res w w' v r ∧ SR r ∧ (∀ x, x ∈ r ↔ x ∈ la ∧ ¬ x ∈ lb) ∧ r.length ≤ la.length + lb.length) := by
  refine calls_of_cw (N := 12) Try.func11 rfl rfl rfl ?_
  refine cw_seq ?_
  refine cw_region ?_
  refine wl_val rfl (ex_assign rfl) ?_
  refine wl_nil (nrm_then ?_)
  refine cw_seq ?_
  refine cw_region ?_
  refine wl_val rfl (ex_move rfl) ?_
  refine wl_call1 (vs := [_]) Try.goes19 rfl (missing_ok (rz_any hb ((Evo.refl [] w))) (by omega)) rfl ?_
  rintro _ w1 ⟨cap, K, rfl, hAs, hKr, hw2⟩
  have hE3 := (Evo.refl [] w).then hw2
  refine wl_alloc rfl Try.zero41 fun q w4 hB5 hs6 hw7 => ?_
  have hG8 := Ge.new hE3 hs6
  have hG9 := Ge.new (Evo.refl [] w1) hs6
  have hE10 := hE3.then hw7
  have hE11 := (Evo.refl [] w1).then hw7
  refine wl_store1 rfl rfl (by first | rfl | assumption) Try.size41 hB5 rfl fun w12 hB13 hw14 => ?_
  have hE15 := hE10.step hw14 hG8.mem1
  have hE16 := hE11.step hw14 hG9.mem1
  refine wl_nil (nrm_then ?_)
  refine cw_seq ?_
  refine cw_region ?_
  refine wl_val rfl (ex_move rfl) ?_
  refine wl_call1 (vs := [_]) Try.goes18 rfl (rising_ok (rz_any ha (hE15)) (by omega)) rfl ?_
  rintro _ w17 ⟨r, a, c, ob, rfl, hO, hG, hSR, hmem, hle, hw18⟩
  have hms := (hE16).size
  have hqs := Lt.blk hB13
  have hKL : ∀ k, k ∈ q :: K → k ∉ ob.toList := fun k hk hm => by have h2 := hG k (by simpa using hm); rcases List.mem_cons.1 hk with rfl | hk; { have := hqs _ rfl; omega }; { have := (hKr k hk).2; omega }
  have hA19 := Apart.fresh (Lt.blk hB13) hG
  have hG20 := Ge.fresh hE15 hG
  have hG21 := Ge.fresh hE16 hG
  have hE22 := hE15.then hw18
  have hE23 := hE16.then hw18
  have hB24 := hw18.blk0 hB13
  refine wl_val rfl (ex_makeFunc (vs := [_]) rfl) ?_
  have hBq := hB24
  have hEm := hE23
  have hAs2 : Asks 23 [.pointer (some ⟨q, 0, none⟩)] (q :: K) w17 (fun x => !decide (¬ x ∈ lb)) := fun X W x he hk => without1_ok (he.blk hBq (hk q (List.mem_cons_self ..))) x (fun W2 h2 => hAs X W2 x (((hEm.any X).trans he).then h2) (fun k hk2 => hk k (List.mem_cons_of_mem _ hk2)))
  refine wl_call1 (vs := [_, _]) Try.goes17 rfl (deleteFunc_ok Try.goes23 hO (by omega) hAs2 hKL) rfl ?_
  rintro _ w25 ⟨rfl, hS, hw26⟩
  have hE27 := hE22.step hw26 hG20.mem
  have hE28 := hE23.step hw26 hG21.mem
  have hB29 := hw26.blk hB24 hA19.nmem
  refine wl_val rfl (ex_assign rfl) ?_
  refine wl_nil (nrm_then ?_)
  refine cw_ret (body_ret1 rfl rfl ?_)
  have hf := List.length_filter_le (fun x => !(!decide (¬ x ∈ lb))) r
  exact ⟨_, ⟨a, c, ob, rfl, hS, hG20, hE27⟩, hSR.filter _, fun x => by rw [List.mem_filter, hmem x]; simp, by omega⟩

theorem or_ok {w : World} {va vb : Value} {la lb : List Int} (ha : RSl 1 RZ [] w va la) (hb : RSl 1 RZ [] w vb lb) (hla : la.length ≤ 10000000) (hlb : lb.length ≤ 10000000) :
    Calls Try.prog 10 #[va, vb] w (Ret fun v w' => ∃ r, Res w w' v r ∧ SR r ∧ (∀ x, x ∈ r ↔ x ∈ la ∨ x ∈ lb) ∧ r.length ≤ la.length + lb.length) := by
  have ha0 := ha
  have hb0 := hb
  obtain ⟨a1, c1, rfl, hc1, -⟩ := ha
  obtain ⟨a2, c2, rfl, hc2, -⟩ := hb
  refine calls_of_cw (N := 10) Try.func10 rfl rfl rfl ?_
  refine cw_seq ?_
  refine cw_region ?_
  refine wl_val rfl (ex_assign rfl) ?_
  refine wl_nil (nrm_then ?_)
  refine cw_seq ?_
  refine cw_region ?_
  refine wl_val rfl (ex_move rfl) ?_
  refine wl_val rfl (ex_move rfl) ?_
  refine wl_bslice (vs := [_, _]) rfl Try.slice67 rfl rfl rfl rfl fun b1 w2 hO3 hs4 hw5 => ?_
  have hG6 := Ge.new (Evo.refl [] w) hs4
  have hE7 := (Evo.refl [] w).then hw5
  refine wl_call1 (vs := [_]) Try.goes22 rfl (concat_ok (ls := [la, lb]) hO3 rfl (fun k hk => by rcases (show k = 0 ∨ k = 1 by simp at hk; omega) with rfl | rfl; { exact rz_any ha0 (hE7) }; { exact rz_any hb0 (hE7) }) (by simp; omega) (by omega)) rfl ?_
  rintro _ w8 ⟨ac, cc, oc, rfl, hC, hGc, hw9⟩
  have hA10 := Apart.fresh (Lt.own hO3) hGc
  have hG11 := Ge.fresh hE7 hGc
  have hE12 := hE7.then hw9
  have hO13 := hO3.evo0 hw9
  refine wl_call1 (vs := [_]) Try.goes18 rfl (rising_ok (own_rz hC (X := []) (fun _ _ h => by cases h)) (by simp; omega)) rfl ?_
  rintro _ w14 ⟨r, a, c, ob, rfl, hO, hG, hSR, hmem, hle, hw15⟩
  have hA16 := Apart.fresh (Lt.own hO13) hG
  have hA17 := Apart.fresh (Lt.own hC) hG
  have hG18 := Ge.fresh hE12 hG
  have hE19 := hE12.then hw15
  have hO20 := hO13.evo0 hw15
  have hO21 := hC.evo0 hw15
  refine wl_val rfl (ex_assign rfl) ?_
  refine wl_nil (nrm_then ?_)
  refine cw_ret (body_ret1 rfl rfl ?_)
  exact ⟨r, ⟨a, c, ob, rfl, hO, hG18, hE19⟩, hSR, fun x => by rw [hmem x]; simp, by simp at hle; omega⟩

end Go.Proofs.Ytebghjbfdpeipaa
