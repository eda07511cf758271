/- The walks of the tree's judge: fine, Valid, Groups, as wholes. -/
import Derived.Test.YtgboffefbpligaaTd
namespace Go.Proofs.Ytgboffefbpligaa
open Go.Proofs
open Go.W Go.RowKit
attribute [local irreducible] Decidable.decide
set_option linter.unusedSimpArgs false
set_option linter.unusedVariables false
theorem Try.zero79 : zeroB Try.prog 79 = some #[.int .i64 0, .slice none 0 0] := by kernel_rfl


theorem fine_ok : ∀ {n : Nat} {w : World} {jb : Nat} {st : St} {a : Option Addr} {c : Nat} {ob : Option Nat} {vs : List Value} {t : Rx} {b : Int}, JAt w 79 jb st a c ob → RRx n (jb :: ob.toList) w vs t → StOk st → 0 ≤ b → b ≤ 251 →
      Calls Try.prog 35 #[.pointer (some ⟨jb, 0, none⟩), .agg vs.toArray, .int .i64 b] w (Ret fun v w' => ∃ r, v = .bool r ∧ r = (t.fine b st).isSome ∧ Evo (jb :: ob.toList) w w' ∧ ∀ st', t.fine b st = some st' → StOk st' ∧ ∃ a' c' ob', JAt w' 79 jb st' a' c' ob' ∧ ∀ g, ob' = some g → g ∈ ob.toList ∨ w.heap.size ≤ g)
  | 0, w, jb, st, a, c, ob, vs, t, b, hJ, hx, hs, h0, h1 => hx.elim
  | n + 1, w, jb, st, a, c, ob, vs, t, b, hJ, hx, hs, h0, h1 => fine_step (n := n) (fun w jb st a c ob vs t b hJ hx hs h0 h1 => fine_ok hJ hx hs h0 h1) hJ hx hs h0 h1
/-- A judge newly made. -/
theorem JAt.new {w : World} {jb : Nat} {T : TypeId} (h : w.heap[jb]? = some (.cells #[iv 0, .slice none 0 0] T (0, 0))) : JAt w T jb (0, []) none 0 none := ⟨h, OwnS.nil _ _ _, fun g hg => by cases hg⟩
theorem evo_new {w w1 w2 : World} {b : Nat} (h1 : Evo [] w w1) (h2 : Evo [b] w1 w2) (hb : w.heap.size ≤ b) : Evo [] w w2 := h1.step h2 (fun y hy => by right; rw [List.mem_singleton.1 hy]; exact hb)

theorem valid_ok {n : Nat} {w : World} {vs : List Value} {t : Rx} (hx : RRx n [] w vs t) :
    Calls Try.prog 29 #[.agg vs.toArray] w (Ret fun v w' => ∃ r, v = .bool r ∧ (r = true ↔ t.Ok) ∧ Evo [] w w') := by
  have hx0 := hx
  obtain ⟨m, ra, rc, ka, kc, hm, rfl, hrg, hk, bl1, bl2, bl3⟩ := hx.get
  refine calls_of_cw (N := 6) Try.func29 rfl rfl rfl ?_
  refine cw_seq ?_
  refine cw_region ?_
  refine wl_boxA rfl rfl fun b1 w2 hB3 hs4 hw5 => ?_
  have hG6 := Ge.new (Evo.refl [] w) hs4
  have hE7 := (Evo.refl [] w).then hw5
  refine wl_a ?_
  refine wl_nil (nrm_then ?_)
  refine cw_seq ?_
  refine cw_region ?_
  refine wl_alloc rfl Try.zero79 fun jb w8 hB9 hs10 hw11 => ?_
  have hsz_jb := hs10
  have hA12 := Apart.new (Lt.blk hB3) hs10
  have hG13 := Ge.new hE7 hs10
  have hE14 := hE7.then hw11
  have hB15 := hw11.blk0 hB3
  refine wl_val rfl (ex_loadBlk rfl Try.agg25 Try.size25 hB15 rfl) ?_
  refine wl_call1 (vs := [_, _, _]) Try.goes35 rfl (fine_ok (st := (0, [])) (JAt.new hB9) (RRx.step hx0 hE14 hG13.mem1 (fun b hb => by cases hb)) ⟨Nat.le_refl _, by decide⟩ (by decide) (by decide)) rfl ?_
  rintro _ w16 ⟨r, rfl, hr, hw17, -⟩
  have hE18 := hE14.step hw17 (hG13.mem1)
  refine wl_a ?_
  refine wl_nil (nrm_then ?_)
  refine cw_ret (body_ret1 rfl rfl ?_)
  exact ⟨r, rfl, by rw [hr, Option.isSome_iff_exists]; rfl, hE18⟩

theorem groups_ok {n : Nat} {w : World} {vs : List Value} {t : Rx} (hx : RRx n [] w vs t) :
    Calls Try.prog 17 #[.agg vs.toArray] w (Ret fun v w' => ∃ a k c, v = .slice a k c ∧ Evo [] w w') := by
  have hx0 := hx
  obtain ⟨m, ra, rc, ka, kc, hm, rfl, hrg, hk, bl1, bl2, bl3⟩ := hx.get
  refine calls_of_cw (N := 13) Try.func17 rfl rfl rfl ?_
  refine cw_seq ?_
  refine cw_region ?_
  refine wl_boxA rfl rfl fun b1 w2 hB3 hs4 hw5 => ?_
  have hG6 := Ge.new (Evo.refl [] w) hs4
  have hE7 := (Evo.refl [] w).then hw5
  refine wl_a ?_
  refine wl_nil (nrm_then ?_)
  refine cw_seq ?_
  refine cw_region ?_
  refine wl_alloc rfl Try.zero79 fun jb w8 hB9 hs10 hw11 => ?_
  have hsz_jb := hs10
  have hA12 := Apart.new (Lt.blk hB3) hs10
  have hG13 := Ge.new hE7 hs10
  have hE14 := hE7.then hw11
  have hB15 := hw11.blk0 hB3
  refine wl_a ?_
  refine wl_nil (nrm_then ?_)
  refine cw_seq ?_
  refine cw_seq ?_
  refine cw_region ?_
  refine wl_m ?_
  refine wl_val rfl (ex_loadBlk rfl Try.agg25 Try.size25 hB15 rfl) ?_
  refine wl_call1 (vs := [_, _, _]) Try.goes35 rfl (fine_ok (st := (0, [])) (JAt.new hB9) (RRx.step hx0 hE14 hG13.mem1 (fun b hb => by cases hb)) ⟨Nat.le_refl _, by decide⟩ (by decide) (by decide)) rfl ?_
  rintro _ w16 ⟨r, rfl, hr, hw17, hst⟩
  have hE18 := hE14.step hw17 (hG13.mem1)
  refine wl_val rfl (ex_notb rfl) ?_
  refine wl_nil (nrm_then ?_)
  refine cw_ifb rfl (fun hc8 => ?_) (fun hc8 => ?_)
  ·skip
   refine cw_seq ?_
   refine cw_region ?_
   refine wl_a ?_
   refine wl_nil (nrm_then ?_)
   refine cw_ret (ret_then (body_ret1 rfl rfl ?_))
   exact ⟨none, 0, 0, rfl, hE18⟩
  ·skip
   obtain ⟨st', hst'⟩ := Option.isSome_iff_exists.1 (show (t.fine 0 (0, [])).isSome = true by rw [← hr]; simpa using hc8)
   obtain ⟨-, a2, c2, o2, hJ2, -⟩ := hst st' hst'
   refine cw_skip (nrm_then ?_)
   refine cw_seq ?_
   refine cw_region ?_
   refine wl_m ?_
   refine wl_val rfl (ex_nilCheck rfl) ?_
   refine wl_val rfl (ex_fieldAddr rfl Try.fld79_1) ?_
   refine wl_val rfl (ex_load1 rfl Try.agg27 (cell_nth hJ2.blk rfl)) ?_
   refine wl_a ?_
   refine wl_nil (nrm_then ?_)
   refine cw_ret (body_ret1 rfl rfl ?_)
   exact ⟨a2, _, c2, rfl, hE18⟩

end Go.Proofs.Ytgboffefbpligaa
