/- The walks of Values, Collect, Sorted, rising, missing and its closure. -/
import Derived.Test.YtebghjbfdpeipaaIc
namespace Go.Proofs.Ytebghjbfdpeipaa
open Go.Proofs
open Go.W
attribute [local irreducible] Decidable.decide
set_option linter.unusedSimpArgs false
set_option linter.unusedVariables false
theorem Try.goes34 : Goes Try.prog 34 := ⟨_, Try.func34, by kernel_rfl, by kernel_rfl⟩
theorem Try.goes35 : Goes Try.prog 35 := ⟨_, Try.func35, by kernel_rfl, by kernel_rfl⟩
theorem Try.goes36 : Goes Try.prog 36 := ⟨_, Try.func36, by kernel_rfl, by kernel_rfl⟩
theorem Try.goes48 : Goes Try.prog 48 := ⟨_, Try.func48, by kernel_rfl, by kernel_rfl⟩
theorem Try.goes49 : Goes Try.prog 49 := ⟨_, Try.func49, by kernel_rfl, by kernel_rfl⟩
theorem Try.goes59 : Goes Try.prog 59 := ⟨_, Try.func59, by kernel_rfl, by kernel_rfl⟩

theorem values_ok {w : World} {a : Option Addr} {n c : Nat} : Calls Try.prog 36 #[.slice a n c] w (Ret fun v' w' => ∃ b, v' = .func (.func 50) #[] #[.pointer (some ⟨b, 0, none⟩)] ∧ w'.heap[b]? = some (.cells #[.slice a n c] 22 (0, 0)) ∧ Evo [] w w') := by
  refine calls_of_cw (N := 4) Try.func36 rfl rfl rfl ?_
  refine cw_seq ?_
  refine cw_region ?_
  refine wl_box1 rfl rfl rfl fun bs w1 hB2 hs3 hw4 => ?_
  have hG5 := Ge.new (Evo.refl [] w) hs3
  have hE6 := (Evo.refl [] w).then hw4
  refine wl_val rfl (ex_assign rfl) ?_
  refine wl_nil (nrm_then ?_)
  refine cw_seq ?_
  refine cw_region ?_
  refine wl_val rfl (ex_makeFunc (vs := [_]) rfl) ?_
  refine wl_val rfl (ex_assign rfl) ?_
  refine wl_nil (nrm_then ?_)
  refine cw_ret (body_ret1 rfl rfl ?_)
  exact ⟨bs, rfl, hB2, hE6⟩

theorem collect_ok {w : World} {Bs : Nat} {v : Value} {l : List Int} (hB : w.heap[Bs]? = some (.cells #[v] 22 (0, 0))) (hI : Ints w.heap.size w v l) (hl : l.length ≤ 100000000) :
    Calls Try.prog 48 #[.func (.func 50) #[] #[.pointer (some ⟨Bs, 0, none⟩)]] w (Ret fun v' w' => ∃ a c ob, v' = .slice a l.length c ∧ OwnS w' 3 1 a l.length c (l.map iv) ob ∧ Ge w ob ∧ Evo [] w w') := by
  refine calls_of_cw (N := 5) Try.func48 rfl rfl rfl ?_
  refine cw_seq ?_
  refine cw_region ?_
  refine wl_val rfl (ex_assign rfl) ?_
  refine wl_nil (nrm_then ?_)
  refine cw_seq ?_
  refine cw_region ?_
  refine wl_val rfl (ex_move rfl) ?_
  refine wl_call1 (vs := [_, _]) Try.goes59 rfl (seq_ok hB hI hl) rfl ?_
  rintro _ w1 ⟨a, c, ob, rfl, hO, hG, hw2⟩
  have hE3 := (Evo.refl [] w).then hw2
  refine wl_val rfl (ex_assign rfl) ?_
  refine wl_nil (nrm_then ?_)
  refine cw_ret (body_ret1 rfl rfl ?_)
  exact ⟨a, c, ob, rfl, hO, hG, hE3⟩

theorem sorted_ok {w : World} {Bs : Nat} {v : Value} {l : List Int} (hB : w.heap[Bs]? = some (.cells #[v] 22 (0, 0))) (hI : Ints w.heap.size w v l) (hl : l.length ≤ 100000000) :
    Calls Try.prog 35 #[.func (.func 50) #[] #[.pointer (some ⟨Bs, 0, none⟩)]] w (Ret fun v' w' => ∃ a c ob, v' = .slice a l.length c ∧ OwnS w' 3 1 a l.length c ((srt l).map iv) ob ∧ Ge w ob ∧ Evo [] w w') := by
  refine calls_of_cw (N := 9) Try.func35 rfl rfl rfl ?_
  refine cw_seq ?_
  refine cw_region ?_
  refine wl_val rfl (ex_assign rfl) ?_
  refine wl_nil (nrm_then ?_)
  refine cw_seq ?_
  refine cw_region ?_
  refine wl_val rfl (ex_move rfl) ?_
  refine wl_call1 (vs := [_]) Try.goes48 rfl (collect_ok hB hI hl) rfl ?_
  rintro _ w1 ⟨a, c, ob, rfl, hO, hG, hw2⟩
  have hG3 := Ge.fresh (Evo.refl [] w) hG
  have hE4 := (Evo.refl [] w).then hw2
  refine wl_val rfl (ex_assign rfl) ?_
  refine wl_nil (nrm_then ?_)
  refine cw_seq ?_
  refine cw_region ?_
  refine wl_val rfl (ex_move rfl) ?_
  refine wl_call1 (vs := [_]) Try.goes49 rfl (sort_own hO (by omega)) rfl ?_
  rintro _ w5 ⟨rfl, hS, hw6⟩
  have hE7 := hE4.step hw6 hG3.mem
  refine wl_nil (nrm_then ?_)
  refine cw_seq ?_
  refine cw_region ?_
  refine wl_val rfl (ex_move rfl) ?_
  refine wl_val rfl (ex_assign rfl) ?_
  refine wl_nil (nrm_then ?_)
  refine cw_ret (body_ret1 rfl rfl ?_)
  exact ⟨a, c, ob, rfl, hS, hG, hE7⟩

theorem rising_ok {X : List Nat} {w : World} {v : Value} {l : List Int} (h : RSl 1 RZ X w v l) (hl : l.length ≤ 100000000) :
    Calls Try.prog 18 #[v] w (Ret fun v' w' => ∃ r a c ob, v' = .slice a r.length c ∧ OwnS w' 3 1 a r.length c (r.map iv) ob ∧ Ge w ob ∧ SR r ∧ (∀ x, x ∈ r ↔ x ∈ l) ∧ r.length ≤ l.length ∧ Evo [] w w') := by
  have hI0 := ints_of h
  obtain ⟨va, vc, rfl, -, -⟩ := h
  refine calls_of_cw (N := 7) Try.func18 rfl rfl rfl ?_
  refine cw_seq ?_
  refine cw_region ?_
  refine wl_val rfl (ex_assign rfl) ?_
  refine wl_nil (nrm_then ?_)
  refine cw_seq ?_
  refine cw_region ?_
  refine wl_val rfl (ex_move rfl) ?_
  refine wl_call1 (vs := [_]) Try.goes36 rfl (values_ok) rfl ?_
  rintro _ w1 ⟨bs, rfl, hbs, hw2⟩
  have hE3 := (Evo.refl [] w).then hw2
  have hI1 := hI0.below (hE3).below
  have hI2 := hI1.mono (hE3).size
  refine wl_call1 (vs := [_]) Try.goes35 rfl (sorted_ok hbs hI2 hl) rfl ?_
  rintro _ w4 ⟨a, c, ob, rfl, hO, hG, hw5⟩
  have hG6 := Ge.fresh hE3 hG
  have hE7 := hE3.then hw5
  refine wl_call1 (vs := [_]) Try.goes34 rfl (compact_own hO (by omega)) rfl ?_
  rintro _ w8 ⟨rfl, hS, hw9⟩
  have hE10 := hE7.step hw9 hG6.mem
  refine wl_val rfl (ex_assign rfl) ?_
  refine wl_nil (nrm_then ?_)
  refine cw_ret (body_ret1 rfl rfl ?_)
  have hcs := compact_sr (sort_le l)
  have hcl := compact_len (srt l)
  have hsl : (srt l).length = l.length := List.length_mergeSort l
  exact ⟨Lib.compact (srt l), a, c, ob, rfl, hS, hG6, hcs.1, fun x => (hcs.2 x).trans (List.mem_mergeSort), by omega, hE10⟩

end Go.Proofs.Ytebghjbfdpeipaa
