/- Listed: part 3 of 5 of what the law rests on. -/
import Derived.Test.YtgboffefbpligaaListedB
namespace Go.Proofs.Ytgboffefbpligaa
open Go.Proofs
open Go.W Go.RowKit
attribute [local irreducible] Decidable.decide
set_option linter.unusedSimpArgs false
set_option linter.unusedVariables false
theorem Try.zero79 : zeroB Try.prog 79 = some #[.int .i64 0, .slice none 0 0] := by kernel_rfl
theorem fine_ok : ∀ {n : Nat} {w : World} {jb : Nat} {st : St} {a : Option Addr} {c : Nat} {ob : Option Nat} {vs : List Value} {t : Rx} {b : Int}, JAt w 79 jb st a c ob → RRx n (jb :: ob.toList) w vs t → StOk st → 0 ≤ b → b ≤ 251 →
      Calls Try.prog 35 #[.pointer (some ⟨jb, 0, none⟩), .agg vs.toArray, .int .i64 b] w (Ret fun v w' => ∃ r, v = .bool r ∧ r = (t.fine b st).isSome ∧ Evo (jb :: ob.toList) w w' ∧ ∀ st', t.fine b st = some st' → StOk st' ∧ ∃ a' c' ob', JAt w' 79 jb st' a' c' ob' ∧ ∀ g, ob' = some g → g ∈ ob.toList ∨ w.heap.size ≤ g)
  | 0, w, jb, st, a, c, ob, vs, t, b, hJ, hx, hs, h0, h1 => hx.elim
  | n + 1, w, jb, st, a, c, ob, vs, t, b, hJ, hx, hs, h0, h1 => fine_step (n := n) (fun w jb st a c ob vs t b hJ hx hs h0 h1 => fine_ok hJ hx hs h0 h1) hJ hx hs h0 h1
theorem JAt.new {w : World} {jb : Nat} {T : TypeId} (h : w.heap[jb]? = some (.cells #[iv 0, .slice none 0 0] T (0, 0))) : JAt w T jb (0, []) none 0 none := ⟨h, OwnS.nil _ _ _, fun g hg => by cases hg⟩
theorem valid_ok {n : Nat} {w : World} {vs : List Value} {t : Rx} (hx : RRx n [] w vs t) :
    Calls Try.prog 29 #[.agg vs.toArray] w (Ret fun v w' => ∃ r, v = .bool r ∧ (r = true ↔ t.Ok) ∧ Evo [] w w') := by
  have hx0 := hx; obtain ⟨m, ra, rc, ka, kc, hm, rfl, hrg, hk, bl1, bl2, bl3⟩ := hx.get; refine calls_of_cw (N := 6) Try.func29 rfl rfl rfl ?_; refine cw_seq ?_; refine cw_region ?_; refine wl_boxA rfl rfl fun b1 w2 hB3 hs4 hw5 => ?_; have hG6 := Ge.new (Evo.refl [] w) hs4; have hE7 := (Evo.refl [] w).then hw5; refine wl_a ?_; refine wl_nil (nrm_then ?_); refine cw_seq ?_; refine cw_region ?_; refine wl_alloc rfl Try.zero79 fun jb w8 hB9 hs10 hw11 => ?_; have hsz_jb := hs10; have hA12 := Apart.new (Lt.blk hB3) hs10; have hG13 := Ge.new hE7 hs10; have hE14 := hE7.then hw11; have hB15 := hw11.blk0 hB3; refine wl_val rfl (ex_loadBlk rfl Try.agg25 Try.size25 hB15 rfl) ?_; refine wl_call1 (vs := [_, _, _]) Try.goes35 rfl (fine_ok (st := (0, [])) (JAt.new hB9) (RRx.step hx0 hE14 hG13.mem1 (fun b hb => by cases hb)) ⟨Nat.le_refl _, by decide⟩ (by decide) (by decide)) rfl ?_; rintro _ w16 ⟨r, rfl, hr, hw17, -⟩; have hE18 := hE14.step hw17 (hG13.mem1); refine wl_a ?_; refine wl_nil (nrm_then ?_); refine cw_ret (body_ret1 rfl rfl ?_)
  exact ⟨r, rfl, by rw [hr, Option.isSome_iff_exists]; rfl, hE18⟩
theorem groups_ok {n : Nat} {w : World} {vs : List Value} {t : Rx} (hx : RRx n [] w vs t) :
    Calls Try.prog 17 #[.agg vs.toArray] w (Ret fun v w' => ∃ a k c, v = .slice a k c ∧ Evo [] w w') := by
  have hx0 := hx; obtain ⟨m, ra, rc, ka, kc, hm, rfl, hrg, hk, bl1, bl2, bl3⟩ := hx.get; refine calls_of_cw (N := 13) Try.func17 rfl rfl rfl ?_; refine cw_seq ?_; refine cw_region ?_; refine wl_boxA rfl rfl fun b1 w2 hB3 hs4 hw5 => ?_; have hG6 := Ge.new (Evo.refl [] w) hs4; have hE7 := (Evo.refl [] w).then hw5; refine wl_a ?_; refine wl_nil (nrm_then ?_); refine cw_seq ?_; refine cw_region ?_; refine wl_alloc rfl Try.zero79 fun jb w8 hB9 hs10 hw11 => ?_; have hsz_jb := hs10; have hA12 := Apart.new (Lt.blk hB3) hs10; have hG13 := Ge.new hE7 hs10; have hE14 := hE7.then hw11; have hB15 := hw11.blk0 hB3; refine wl_a ?_; refine wl_nil (nrm_then ?_); refine cw_seq ?_; refine cw_seq ?_; refine cw_region ?_; refine wl_m ?_; refine wl_val rfl (ex_loadBlk rfl Try.agg25 Try.size25 hB15 rfl) ?_; refine wl_call1 (vs := [_, _, _]) Try.goes35 rfl (fine_ok (st := (0, [])) (JAt.new hB9) (RRx.step hx0 hE14 hG13.mem1 (fun b hb => by cases hb)) ⟨Nat.le_refl _, by decide⟩ (by decide) (by decide)) rfl ?_; rintro _ w16 ⟨r, rfl, hr, hw17, hst⟩; have hE18 := hE14.step hw17 (hG13.mem1); refine wl_val rfl (ex_notb rfl) ?_; refine wl_nil (nrm_then ?_); refine cw_ifb rfl (fun hc8 => ?_) (fun hc8 => ?_)
  ·skip
   refine cw_seq ?_; refine cw_region ?_; refine wl_a ?_; refine wl_nil (nrm_then ?_); refine cw_ret (ret_then (body_ret1 rfl rfl ?_)); exact ⟨none, 0, 0, rfl, hE18⟩
  ·skip
   obtain ⟨st', hst'⟩ := Option.isSome_iff_exists.1 (show (t.fine 0 (0, [])).isSome = true by rw [← hr]; simpa using hc8)
   obtain ⟨-, a2, c2, o2, hJ2, -⟩ := hst st' hst'; refine cw_skip (nrm_then ?_); refine cw_seq ?_; refine cw_region ?_; refine wl_m ?_; refine wl_val rfl (ex_nilCheck rfl) ?_; refine wl_val rfl (ex_fieldAddr rfl Try.fld79_1) ?_; refine wl_val rfl (ex_load1 rfl Try.agg27 (cell_nth hJ2.blk rfl)) ?_; refine wl_a ?_; refine wl_nil (nrm_then ?_); refine cw_ret (body_ret1 rfl rfl ?_); exact ⟨a2, _, c2, rfl, hE18⟩
end Go.Proofs.Ytgboffefbpligaa
namespace Go.Proofs.Ytgboffefbpligaa
open Go.Proofs
open Go.W Go.RowKit
attribute [local irreducible] Decidable.decide
set_option linter.unusedSimpArgs false
set_option linter.unusedVariables false
theorem Try.agg41 : aggB Try.prog 41 = some false := by kernel_rfl
theorem Try.app22_22 : appB Try.prog 22 22 = some (51, 2, 8) := by kernel_rfl
theorem Try.app41_41 : appB Try.prog 41 41 = some (44, 5, 56) := by kernel_rfl
theorem Try.elem41 : elemB Try.prog 41 = some 5 := by kernel_rfl
theorem Try.fld44_1 : fieldB Try.prog 44 1 = some 1 := by kernel_rfl
theorem Try.fld44_2 : fieldB Try.prog 44 2 = some 2 := by kernel_rfl
theorem Try.size41 : sizeB Try.prog 41 = some 1 := by kernel_rfl
theorem Try.slice22 : sliceB Try.prog 22 = some (51, 2) := by kernel_rfl
theorem Try.slice41 : sliceB Try.prog 41 = some (44, 5) := by kernel_rfl
structure CdAt (w : World) (cb : Nat) (es : List Iv) (a : Option Addr) (c : Nat) (ob : Option Nat) (Z : List Nat) : Prop where
  blk : w.heap[cb]? = some (.cells #[.slice a es.length c] 41 (0, 0))
  own : OwnS w 44 5 a es.length c (flat es) ob
  ne : ∀ g, ob = some g → g ≠ cb
  rs : ∀ e, e ∈ es → RSl 2 RRg (cb :: (ob.toList ++ Z)) w e.2 e.1.rs
theorem CdAt.lt {w : World} {cb : Nat} {es : List Iv} {a : Option Addr} {c : Nat} {ob : Option Nat} {Z : List Nat} (h : CdAt w cb es a c ob Z) : ∀ y, y ∈ cb :: ob.toList → y < w.heap.size := fun y hy => by
  rcases List.mem_cons.1 hy with e | e
  · rw [e]; exact blk_lt h.blk
  · have : ob = some y := by simpa using e
    subst this; exact h.own.lt
theorem mem_ob {w : World} {cb : Nat} {ob ob' : Option Nat} (h : ob' = ob ∨ ∃ g, ob' = some g ∧ w.heap.size ≤ g) : ∀ y, y ∈ cb :: ob'.toList → y ∈ cb :: ob.toList ∨ w.heap.size ≤ y := fun y hy => by
  rcases List.mem_cons.1 hy with e | e
  · left; simp [e]
  · have e' : ob' = some y := by simpa using e
    rcases h with rfl | ⟨g, h1, h2⟩
    · left; simp [e']
    · rw [e'] at h1; cases h1; exact .inr h2
theorem mem_obZ {w : World} {cb : Nat} {ob ob' : Option Nat} {Z : List Nat} (h : ob' = ob ∨ ∃ g, ob' = some g ∧ w.heap.size ≤ g) : ∀ y, y ∈ cb :: (ob'.toList ++ Z) → y ∈ cb :: (ob.toList ++ Z) ∨ w.heap.size ≤ y := fun y hy => by
  rw [← List.cons_append] at hy
  rcases List.mem_append.1 hy with e | e
  · exact (mem_ob h y e).imp (fun h => by rw [← List.cons_append]; exact List.mem_append_left _ h) id
  · left; rw [← List.cons_append]; exact List.mem_append_right _ e
theorem fr_trans {X : List Nat} {w w1 : World} {o o1 o2 : Option Nat} (h1 : o1 = o ∨ ∃ g, o1 = some g ∧ w.heap.size ≤ g) (he : Evo X w w1) (h2 : o2 = o1 ∨ ∃ g, o2 = some g ∧ w1.heap.size ≤ g) : o2 = o ∨ ∃ g, o2 = some g ∧ w.heap.size ≤ g := by
  rcases h2 with rfl | ⟨g, h3, h4⟩
  · exact h1
  · exact .inr ⟨g, h3, Nat.le_trans he.size h4⟩
theorem rrg_step {X Y : List Nat} {w w' : World} {v : Value} {l : List (Int × Int)} (h : RSl 2 RRg X w v l) (he : Evo X w w') (hy : ∀ y, y ∈ Y → y ∈ X ∨ w.heap.size ≤ y) : RSl 2 RRg Y w' v l := by
  have h1 : RSl 2 RRg (Y ++ X) w v l := RSl.fresh (by decide) RRg.fresh (fun y hm => by rcases List.mem_append.1 hm with h | h; exact hy y h; exact .inl h) h
  have h2 := RSl.evo RRg.pers (he.mono (fun b hb => by simp [hb])) h1
  obtain ⟨a, c, hv, hc, h3⟩ := h2
  exact ⟨a, c, hv, hc, fun k hk => by obtain ⟨b, o, vs, ha, hb, hl, hcs, hr⟩ := h3 k hk; exact ⟨b, o, vs, ha, fun hm => hb (by simp [hm]), hl, hcs, hr⟩⟩
theorem RRg.one : ∀ X w vs d, RRg X w vs d → ∀ u, u ∈ vs → u.oneCell' = true := fun _ _ _ _ h u hu => by
  subst h; simp at hu; rcases hu with rfl | rfl <;> rfl
theorem modify_two {α : Type} (f g : α → α) (l : List α) (k : Nat) : (l.modify k f).modify k g = l.modify k (fun e => g (f e)) := by
  apply List.ext_getElem?
  intro i
  rw [List.getElem?_modify, List.getElem?_modify, List.getElem?_modify]
  cases l[i]? with
  | none => rfl
  | some v => by_cases e : k = i <;> simp [e]
def CdTo (w w' : World) (cb : Nat) (ob : Option Nat) (es : List Iv) (Z : List Nat) : Prop := ∃ a c ob', CdAt w' cb es a c ob' Z ∧ (ob' = ob ∨ ∃ g, ob' = some g ∧ w.heap.size ≤ g)
theorem CdAt.evo {w w' : World} {cb : Nat} {es : List Iv} {a : Option Addr} {c : Nat} {ob : Option Nat} {Y Z Z' : List Nat} (h : CdAt w cb es a c ob Z) (he : Evo Y w w') (h1 : cb ∉ Y) (h2 : ∀ g, ob = some g → g ∉ Y) (hY : ∀ y, y ∈ Y → y ∈ Z) (hZ : ∀ z, z ∈ Z' → z ∈ Z ∨ w.heap.size ≤ z) : CdAt w' cb es a c ob Z' :=
  ⟨he.blk h.blk h1, h.own.evo he h2, h.ne, fun e hm => rrg_step (h.rs e hm) (he.mono (fun b hb => List.mem_cons_of_mem _ (List.mem_append_right _ (hY b hb)))) (fun y hy => by
    rw [← List.cons_append] at hy
    rcases List.mem_append.1 hy with e | e
    · left; rw [← List.cons_append]; exact List.mem_append_left _ e
    · exact (hZ y e).imp (fun h => by rw [← List.cons_append]; exact List.mem_append_right _ h) id)⟩
theorem CdAt.evo0 {w w' : World} {cb : Nat} {es : List Iv} {a : Option Addr} {c : Nat} {ob : Option Nat} {Z : List Nat} (h : CdAt w cb es a c ob Z) (he : Evo [] w w') : CdAt w' cb es a c ob Z := h.evo he (by simp) (by simp) (by simp) (fun z hz => .inl hz)
theorem rnil0 {α : Type} {sz : Nat} {R : Rel α} {X : List Nat} {w : World} : RSl sz R X w (.slice none 0 0) [] := ⟨none, 0, rfl, by simp, fun k hk => by simp at hk⟩
theorem put_ok {w : World} {cb : Nat} {es : List Iv} {a : Option Addr} {c : Nat} {ob : Option Nat} {op o al arg : Int} {vr : Value} {rs : List (Int × Int)} {Z : List Nat} (hC : CdAt w cb es a c ob Z) (hr : RSl 2 RRg (cb :: (ob.toList ++ Z)) w vr rs) (hl : es.length ≤ 1000000) :
    Calls Try.prog 31 #[.pointer (some ⟨cb, 0, none⟩), .agg #[iv op, iv o, iv al, iv arg, vr]] w (Ret fun v w' => v = iv (es.length : Nat) ∧ Evo (cb :: ob.toList) w w' ∧ CdTo w w' cb ob (es ++ [(⟨op, (es.length : Nat) + 1, al, arg, rs⟩, vr)]) Z) := by
  have hC0 := hC; obtain ⟨hB, hO, hne, hrs⟩ := hC
  have hAJN : Apart (some cb) ob := fun g h1 h2 => by cases h1; exact hne cb h2 rfl
  have hone := hr.one
  have hmZ : ∀ b, b ∈ cb :: ob.toList → b ∈ cb :: (ob.toList ++ Z) := fun b hb => by rw [← List.cons_append]; exact List.mem_append_left _ hb
  have hcell := hr.cell; refine calls_of_cw (N := 22) Try.func31 rfl rfl rfl ?_; refine cw_seq ?_; refine cw_region ?_; refine wl_boxA rfl rfl fun b1 w2 hB3 hs4 hw5 => ?_; have hA6 := Apart.new (Lt.blk hB) hs4; have hA7 := Apart.new (Lt.own hO) hs4; have hG8 := Ge.new (Evo.refl (cb :: ob.toList) w) hs4; have hE9 := (Evo.refl (cb :: ob.toList) w).then hw5; have hB10 := hw5.blk0 hB; have hO11 := hO.evo0 hw5; refine wl_a ?_; refine wl_nil (nrm_then ?_); refine cw_seq ?_; refine cw_region ?_; refine wl_m ?_; refine wl_val rfl (ex_nilCheck rfl) ?_; refine wl_val rfl (ex_load1 rfl Try.agg41 (cell_nth hB10 rfl)) ?_; refine wl_val rfl (ex_len_slice rfl Try.underlying41 rfl) ?_; refine wl_a ?_; refine wl_nil (nrm_then ?_); refine cw_seq ?_; refine cw_region ?_; refine wl_m ?_; refine wl_val rfl (ex_add_i64 rfl rfl (by omega) (by omega)) ?_; refine wl_val rfl (ex_fieldAddr rfl Try.fld44_1) ?_; refine wl_store1 rfl rfl (by first | rfl | assumption) Try.size3 hB3 rfl fun w12 hB13 hw14 => ?_; have hE15 := hE9.step hw14 hG8.mem1; have hB16 := hw14.blk hB10 hA6.nmem1; have hO17 := hO11.evo hw14 hA7.own1
  try simp only [List.setIfInBounds_toArray, List.set_cons_zero, List.set_cons_succ, Nat.reduceAdd, Nat.zero_add, Nat.add_zero] at hB13
  refine wl_nil (nrm_then ?_); refine cw_seq ?_; refine cw_any (fun w0 w' => Evo ob.toList w0 w') (by kernel_rfl) (fun w18 hw19 => ?_); have hE20 := hE15.then hw19; have hB21 := hw19.blk0 hB16; have hO22 := hO17.evo0 hw19; have hB23 := hw19.blk0 hB13; refine ae_take 0 rfl (by kernel_rfl) (by kernel_rfl) (by kernel_rfl) rfl (fun _ hS => ex_move rfl) (Evo.refl ob.toList w18) ?_; refine ae_take 1 rfl (by kernel_rfl) (by kernel_rfl) (by kernel_rfl) rfl (fun _ hS => ex_move rfl) (Evo.refl ob.toList w18) ?_; refine ae_take 2 rfl (by kernel_rfl) (by kernel_rfl) (by kernel_rfl) rfl (fun _ hS => ex_nilCheck rfl) (Evo.refl ob.toList w18) ?_; refine ae_take 3 rfl (by kernel_rfl) (by kernel_rfl) (by kernel_rfl) rfl (fun _ hS => ex_load1 rfl Try.agg41 (cell_nth (hS.blk hB21 (hAJN.nmem)) rfl)) (Evo.refl ob.toList w18) ?_; refine ae_take 4 rfl (by kernel_rfl) (by kernel_rfl) (by kernel_rfl) rfl (fun _ hS => ex_loadBlk rfl Try.agg44 Try.size44 (hS.blk hB23 (hA7.symm.nmem)) rfl) (Evo.refl ob.toList w18) ?_; refine ae_loud [5] (by kernel_rfl) rfl ⟨?_, trivial⟩; refine a_step rfl ?_; refine wl_bslice (vs := [_]) rfl Try.slice41 rfl rfl rfl rfl fun b24 w25 hO26 hs27 hw28 => ?_; have hA29 := Apart.new (Lt.blk hB21) hs27; have hA30 := Apart.new (Lt.own hO22) hs27; have hA31 := Apart.new (Lt.blk hB23) hs27; have hG32 := Ge.new hE20 hs27; have hG33 := Ge.new (Evo.refl ob.toList w18) hs27; have hE34 := hE20.then hw28; have hE35 := (Evo.refl ob.toList w18).then hw28; have hB36 := hw28.blk0 hB21; have hO37 := hO22.evo0 hw28; have hB38 := hw28.blk0 hB23; refine wl_nil (ae_next (.inl hE35) ?_); refine ae_loud [6] (by kernel_rfl) rfl ⟨?_, trivial⟩; refine a_step rfl ?_; have hszg := (hE34).size
  refine wl_append rfl rfl rfl rfl Try.app41_41 hO37 (Src.ofOwn hO26 ⟨by first | rfl | assumption, by first | rfl | assumption, by first | rfl | assumption, by first | rfl | assumption, by first | rfl | assumption, trivial⟩) (by omega) fun a2 c2 w41 ob2 hO2 hw44 hob45 => ?_; have hA46 := hAJN.app (Lt.blk hB36) hob45; have hA47 := hA7.symm.app (Lt.blk hB38) hob45; have hA48 := hA30.symm.app (Lt.own hO26) hob45; have hE49 := hE34.step hw44 (fun y hy => .inl (List.mem_cons_of_mem _ hy)); have hE50 := hE35.step hw44 (fun y hy => .inl hy); have hB51 := hw44.blk hB36 hAJN.nmem; have hB52 := hw44.blk hB38 hA7.symm.nmem; have hO53 := hO26.evo hw44 hA30.symm.own; have hob2 : ob2 = ob ∨ ∃ g, ob2 = some g ∧ w.heap.size ≤ g := hob45.imp id (fun ⟨g, h1, h2⟩ => ⟨g, h1, Nat.le_trans hszg h2⟩); refine wl_nil (ae_next (.inl hE50) ?_); refine ae_take 7 rfl (by kernel_rfl) (by kernel_rfl) (by kernel_rfl) rfl (fun _ hS => ex_nilCheck rfl) hE50 ?_; refine ae_loud [8] (by kernel_rfl) rfl ⟨?_, trivial⟩; refine a_step rfl ?_; refine wl_store1 rfl rfl (by first | rfl | assumption) Try.size41 hB51 rfl fun w54 hB55 hw56 => ?_
  have hE57 := hE49.step hw56 (fun y hy => .inl (by rw [List.mem_singleton.1 hy]; exact List.mem_cons_self ..))
  have hB59 := hw56.blk hB52 hA6.symm.nmem1; have hO60 := hO53.evo hw56 hA29.symm.own1; have hO61 := hO2.evo hw56 hA46.symm.own1
  try simp only [List.setIfInBounds_toArray, List.set_cons_zero, List.set_cons_succ, Nat.reduceAdd, Nat.zero_add, Nat.add_zero] at hB55
  refine wl_nil (ae_next (.inr (by kernel_rfl)) ?_); refine ae_done (by kernel_rfl) (nrm_then ?_); refine cw_seq ?_; refine cw_region ?_; refine wl_m ?_; refine wl_a ?_; refine wl_nil (nrm_then ?_); refine cw_ret (body_ret1 rfl rfl ?_); refine ⟨rfl, hE57, a2, c2, ob2, ⟨?_, ?_, own_new hne (blk_lt hC0.blk) hob2, fun e he => ?_⟩, hob2⟩
  · rw [List.length_append]; exact hB55
  · rw [List.length_append, flat_append]; exact hO61
  · rcases List.mem_append.1 he with he | he
    · exact rrg_step (hrs e he) ((hE57).mono hmZ) (mem_obZ hob2)
    · rw [List.mem_singleton] at he; subst he; exact rrg_step hr ((hE57).mono hmZ) (mem_obZ hob2)
theorem turn_ok {w : World} {es : List Iv} {a : Option Addr} {c k : Nat} {ob : Option Nat} {i o : Int} {z : Bool} (hO : OwnS w 44 5 a es.length c (flat es) ob) (hk : k < es.length) :
    Calls Try.prog 55 #[.slice a es.length c, .int .i64 (k : Nat), .int .i64 i, .int .i64 o, .bool z] w (Ret fun v w' => v = .tuple #[] ∧ Evo ob.toList w w' ∧ OwnS w' 44 5 a es.length c (flat (es.modify k (fun e => (⟨e.1.op, if z then o else i, if z then i else o, e.1.arg, e.1.rs⟩, e.2)))) ob) := by
  obtain ⟨g0, hg0, rfl, -⟩ := hO.cells (by omega)
  have hsame : ∀ (f g : Iv → Iv), (∀ e, f e = g e) → es.modify k f = es.modify k g := fun f g h => by rw [show f = g from funext h]
  refine calls_of_cw (N := 23) Try.func55 rfl rfl rfl ?_; refine cw_seq ?_; refine cw_seq ?_; refine cw_region ?_; refine wl_m ?_; refine wl_nil (nrm_then ?_); refine cw_ifb rfl (fun hc10 => ?_) (fun hc10 => ?_)
  ·skip
   refine cw_region ?_; refine wl_m ?_; refine wl_m ?_; refine wl_a ?_; refine wl_a ?_; refine wl_nil (nrm_then ?_); refine cw_region ?_; refine wl_m ?_; refine wl_m ?_; refine wl_m ?_; refine wl_m ?_; refine wl_m ?_; refine wl_m ?_; refine wl_val rfl (ex_indexAddr (n := k) rfl rfl Try.elem41 hk) ?_; refine wl_val rfl (ex_fieldAddr rfl Try.fld44_1) ?_
   obtain ⟨g10, cur1, hg2, hx3, hcu4, hcs5, -⟩ := hO.at (by omega)
   cases hx3; refine wl_store1L rfl rfl (rfl) Try.size3 hcu4 (hO.inb hcs5 (k := k) (j := 1) (by omega) (by omega) (by omega)) fun w6 hB7 hw8 => ?_; replace hw8 := evo_ob hg2 hw8; have hO9 := hO.set' hg2 hcu4 hB7; have hE11 := (Evo.refl ob.toList w).step hw8 (fun y hy => .inl hy); rw [show 0 + k * 5 + 1 = k * 5 + 1 from by omega, flat_setOut hk] at hO9; refine wl_val rfl (ex_indexAddr (n := k) rfl rfl Try.elem41 hk) ?_; refine wl_val rfl (ex_fieldAddr rfl Try.fld44_2) ?_
   obtain ⟨g21, cur12, hg13, hx14, hcu15, hcs16, -⟩ := hO9.at (by omega)
   cases hx14; refine wl_store1L rfl rfl (rfl) Try.size3 hcu15 (hO9.inb hcs16 (k := k) (j := 2) (by omega) (by omega) (by omega)) fun w17 hB18 hw19 => ?_; replace hw19 := evo_ob hg13 hw19; have hO20 := hO9.set' hg13 hcu15 hB18; have hE22 := hE11.step hw19 (fun y hy => .inl hy)
   rw [show 0 + k * 5 + 2 = k * 5 + 2 from by omega, flat_setAlt (by rw [List.length_modify]; exact hk)] at hO20
   refine wl_nil (body_end0 rfl ?_); refine ⟨rfl, hE22, ?_⟩; have h := hO20; rw [modify_two] at h; subst hc10; exact h
  ·skip
   refine cw_skip (nrm_then ?_); refine cw_region ?_; refine wl_m ?_; refine wl_m ?_; refine wl_m ?_; refine wl_m ?_; refine wl_m ?_; refine wl_m ?_; refine wl_val rfl (ex_indexAddr (n := k) rfl rfl Try.elem41 hk) ?_; refine wl_val rfl (ex_fieldAddr rfl Try.fld44_1) ?_
   obtain ⟨g32, cur23, hg24, hx25, hcu26, hcs27, -⟩ := hO.at (by omega)
   cases hx25; refine wl_store1L rfl rfl (rfl) Try.size3 hcu26 (hO.inb hcs27 (k := k) (j := 1) (by omega) (by omega) (by omega)) fun w28 hB29 hw30 => ?_; replace hw30 := evo_ob hg24 hw30; have hO31 := hO.set' hg24 hcu26 hB29; have hE33 := (Evo.refl ob.toList w).step hw30 (fun y hy => .inl hy); rw [show 0 + k * 5 + 1 = k * 5 + 1 from by omega, flat_setOut hk] at hO31; refine wl_val rfl (ex_indexAddr (n := k) rfl rfl Try.elem41 hk) ?_; refine wl_val rfl (ex_fieldAddr rfl Try.fld44_2) ?_
   obtain ⟨g43, cur34, hg35, hx36, hcu37, hcs38, -⟩ := hO31.at (by omega)
   cases hx36; refine wl_store1L rfl rfl (rfl) Try.size3 hcu37 (hO31.inb hcs38 (k := k) (j := 2) (by omega) (by omega) (by omega)) fun w39 hB40 hw41 => ?_; replace hw41 := evo_ob hg35 hw41; have hO42 := hO31.set' hg35 hcu37 hB40; have hE44 := hE33.step hw41 (fun y hy => .inl hy)
   rw [show 0 + k * 5 + 2 = k * 5 + 2 from by omega, flat_setAlt (by rw [List.length_modify]; exact hk)] at hO42
   refine wl_nil (body_end0 rfl ?_); refine ⟨rfl, hE44, ?_⟩; have h := hO42; rw [modify_two] at h; subst hc10; exact h
theorem cloneR_ok {X Y : List Nat} {w : World} {v : Value} {l : List (Int × Int)} (hs : RSl 2 RRg Y w v l) (hX : ∀ b, b ∈ X → b < w.heap.size) (hl : l.length ≤ 1048576) :
    Calls Try.prog 32 #[v] w (Ret fun v' w' => RSl 2 RRg X w' v' l ∧ Evo [] w w') := by
  have hs0 := hs; obtain ⟨sa, sc, rfl, hlc, e1⟩ := hs; refine calls_of_cw (N := 8) Try.func32 rfl rfl rfl ?_; refine cw_seq ?_; refine cw_region ?_; refine wl_a ?_; refine wl_nil (nrm_then ?_); refine cw_seq ?_; refine cw_seq ?_; refine cw_region ?_; refine wl_m ?_; refine wl_val rfl (ex_eqSl rfl rfl Try.underlying22) ?_; refine wl_nil (nrm_then ?_); refine cw_ifb rfl (fun hc4 => ?_) (fun hc4 => ?_)
  ·skip
   refine cw_seq ?_; refine cw_region ?_; refine wl_a ?_; refine wl_nil (nrm_then ?_); refine cw_ret (ret_then (body_ret1 rfl rfl ?_))
   have h0 : l = [] := by
      cases l with
      | nil => rfl
      | cons x xs => obtain ⟨b, o, vs, ha, -⟩ := e1 0 (by simp); subst ha; cases hc4
   subst h0; exact ⟨⟨none, 0, rfl, Nat.le_refl _, fun k hk => by cases hk⟩, (Evo.refl [] w)⟩
  ·skip
   refine cw_skip (nrm_then ?_); refine cw_seq ?_; refine cw_region ?_; refine wl_bslice (vs := []) rfl Try.slice22 rfl rfl rfl rfl fun b1 w2 hO3 hs4 hw5 => ?_; have hG6 := Ge.new (Evo.refl [] w) hs4; have hE7 := (Evo.refl [] w).then hw5; refine wl_m ?_; obtain ⟨rows, hrow, hsrc⟩ := hs0.rows (P := Try.prog) ((hE7).any _) RRg.one; refine wl_append rfl rfl rfl rfl Try.app22_22 hO3 hsrc (by omega) fun a2 c2 w10 ob2 hO12 hw13 hob14 => ?_; have hG15 := hG6.app hE7 hob14; have hE16 := hE7.step hw13 hG6.mem; refine wl_a ?_; refine wl_nil (nrm_then ?_); refine cw_ret (body_ret1 rfl rfl ?_); refine ⟨?_, hE16⟩; have hO2 := hO12; have hge := hG15
   exact RSl.ofOwn (rows := rows) hO2 ⟨hrow.1, fun k hk hk' => hrow.2 k hk hk'⟩ (by omega) (fun g hg hm => by have := hge g hg; have := hX g hm; omega)
end Go.Proofs.Ytgboffefbpligaa
namespace Go.Proofs.Ytgboffefbpligaa
open Go.W Go.RowKit
set_option linter.unusedVariables false
set_option linter.unusedSimpArgs false
theorem blk_eq (l : List In) (x : Rx) (a b : Nat) : Blk l x a b ↔
    (x.kind = 1 → b = a) ∧
    (x.kind = 2 → b = a + 1 ∧ l[a]? = some ⟨2, (a : Int) + 1, 0, 0, [(x.r, x.r)]⟩) ∧
    (x.kind = 3 → b = a + 1 ∧ l[a]? = some (if x.ranges = [] then ⟨11, 0, 0, 0, []⟩ else ⟨2, (a : Int) + 1, 0, 0, x.ranges⟩)) ∧
    (x.kind = 4 → Blks l x.kids a b) ∧
    (x.kind = 5 → BlkA l x.kids a b) ∧
    (x.kind = 6 → ∃ m, Rep (Blks l x.kids) x.min.toNat a m ∧ (x.max = -1 → ∃ m', l[m]? = some (In.sp x.lazy (m + 1) b) ∧ Blks l x.kids (m + 1) m' ∧ l[m']? = some ⟨10, (m : Int), 0, 0, []⟩ ∧ b = m' + 1) ∧
      (x.max ≠ -1 → Opt l x.lazy (Blks l x.kids) b (x.max - x.min).toNat m)) ∧
    (x.kind = 7 → ∃ m, l[a]? = some ⟨4, (a : Int) + 1, 0, 2 * x.cap, []⟩ ∧ Blks l x.kids (a + 1) m ∧ l[m]? = some ⟨4, (m : Int) + 1, 0, 2 * x.cap + 1, []⟩ ∧ b = m + 1) ∧
    (8 ≤ x.kind → b = a + 1 ∧ l[a]? = some (leafIn x.kind a)) := by
  cases x; rw [Blk]; rfl
theorem blks_snoc {l : List In} {x : Rx} {b m : Nat} (hb : Blk l x m b) : ∀ {ks : List Rx} {a : Nat}, Blks l ks a m → Blks l (ks ++ [x]) a b
  | [], a, h => by rw [Blks] at h; subst h; exact blks_one.2 hb
  | k :: ks, a, h => by
    rw [Blks] at h
    obtain ⟨m', h1, h2⟩ := h
    rw [List.cons_append, Blks]
    exact ⟨m', h1, blks_snoc hb h2⟩
def CatC (ks : List Rx) (a : Nat) (k : List In) : Prop := ∀ l, Has l a k → Blks l ks a (a + k.length)
theorem CatC.nil (a : Nat) : CatC [] a [] := fun l _ => by rw [Blks]; rfl
theorem CatC.snoc {ks : List Rx} {x : Rx} {a : Nat} {k kx : List In} (h : CatC ks a k) (hx : Codes x (a + k.length) kx) : CatC (ks ++ [x]) a (k ++ kx) := fun l hl => by
  rw [List.length_append, ← Nat.add_assoc]
  exact blks_snoc (hx l hl.right) (h l hl.left)
section
variable {x y : Rx} {a : Nat} {k kx : List In}
theorem codes_empty (h : x.kind = 1) : Codes x a [] := fun l hl => (blk_eq l x a _).2 ⟨fun _ => rfl, fun _ => by omega, fun _ => by omega, fun _ => by omega, fun _ => by omega, fun _ => by omega, fun _ => by omega, fun _ => by omega⟩
theorem codes_lit (h : x.kind = 2) : Codes x a [⟨2, (a : Int) + 1, 0, 0, [(x.r, x.r)]⟩] := fun l hl => (blk_eq l x a _).2 ⟨fun _ => by omega, fun _ => ⟨rfl, hl.one⟩, fun _ => by omega, fun _ => by omega, fun _ => by omega, fun _ => by omega, fun _ => by omega, fun _ => by omega⟩
theorem codes_fail (h : x.kind = 3) (hr : x.ranges = []) : Codes x a [⟨11, 0, 0, 0, []⟩] := fun l hl => (blk_eq l x a _).2 ⟨fun _ => by omega, fun _ => by omega, fun _ => ⟨rfl, by rw [if_pos hr]; exact hl.one⟩, fun _ => by omega, fun _ => by omega, fun _ => by omega, fun _ => by omega, fun _ => by omega⟩
theorem codes_class (h : x.kind = 3) (hr : x.ranges ≠ []) : Codes x a [⟨2, (a : Int) + 1, 0, 0, x.ranges⟩] := fun l hl => (blk_eq l x a _).2 ⟨fun _ => by omega, fun _ => by omega, fun _ => ⟨rfl, by rw [if_neg hr]; exact hl.one⟩, fun _ => by omega, fun _ => by omega, fun _ => by omega, fun _ => by omega, fun _ => by omega⟩
theorem codes_cat (h : x.kind = 4) (hk : CatC x.kids a k) : Codes x a k := fun l hl => (blk_eq l x a _).2 ⟨fun _ => by omega, fun _ => by omega, fun _ => by omega, fun _ => hk l hl, fun _ => by omega, fun _ => by omega, fun _ => by omega, fun _ => by omega⟩
theorem codes_alt (h : x.kind = 5) (hk : ∀ l, Has l a k → BlkA l x.kids a (a + k.length)) : Codes x a k := fun l hl => (blk_eq l x a _).2 ⟨fun _ => by omega, fun _ => by omega, fun _ => by omega, fun _ => by omega, fun _ => hk l hl, fun _ => by omega, fun _ => by omega, fun _ => by omega⟩
theorem codes_leaf (h : 8 ≤ x.kind) : Codes x a [leafIn x.kind a] := fun l hl => (blk_eq l x a _).2 ⟨fun _ => by omega, fun _ => by omega, fun _ => by omega, fun _ => by omega, fun _ => by omega, fun _ => by omega, fun _ => by omega, fun _ => ⟨rfl, hl.one⟩⟩
theorem codes_grp (h : x.kind = 7) (hk : x.kids = [y]) (hc : Codes y (a + 1) k) : Codes x a ([⟨4, (a : Int) + 1, 0, 2 * x.cap, []⟩] ++ (k ++ [⟨4, ((a + 1 + k.length : Nat) : Int) + 1, 0, 2 * x.cap + 1, []⟩])) := fun l hl =>
  (blk_eq l x a _).2 ⟨fun _ => by omega, fun _ => by omega, fun _ => by omega, fun _ => by omega, fun _ => by omega, fun _ => by omega, fun _ => ⟨a + 1 + k.length, hl.left.one, by rw [hk]; exact blks_one.2 (hc l hl.right.left), hl.right.right.one, by simp only [List.length_append, List.length_cons, List.length_nil]; omega⟩, fun _ => by omega⟩
theorem codes_loop (h : x.kind = 6) (hk : x.kids = [y]) (hm : x.max = -1) (hr : RepC [y] x.min.toNat a k) (hc : Codes y (a + k.length + 1) kx) :
    Codes x a (k ++ ([In.sp x.lazy (a + k.length + 1) (a + k.length + 1 + kx.length + 1)] ++ (kx ++ [⟨10, ((a + k.length : Nat) : Int), 0, 0, []⟩]))) := fun l hl => by
  have hlen : a + (k ++ ([In.sp x.lazy (a + k.length + 1) (a + k.length + 1 + kx.length + 1)] ++ (kx ++ [(⟨10, ((a + k.length : Nat) : Int), 0, 0, []⟩ : In)]))).length = a + k.length + 1 + kx.length + 1 := by simp only [List.length_append, List.length_cons, List.length_nil]; omega
  rw [hlen]
  refine (blk_eq l x a _).2 ⟨fun _ => by omega, fun _ => by omega, fun _ => by omega, fun _ => by omega, fun _ => by omega, fun _ => ⟨a + k.length, by rw [hk]; exact hr l hl.left, fun _ => ⟨a + k.length + 1 + kx.length, hl.right.left.one, by rw [hk]; exact blks_one.2 (hc l hl.right.right.left), hl.right.right.right.one, rfl⟩, fun h => (h hm).elim⟩, fun _ => by omega, fun _ => by omega⟩
theorem codes_opt {js : List Nat} {kp : List In} {r : Nat} (h : x.kind = 6) (hk : x.kids = [y]) (hm : x.max ≠ -1) (hr : RepC [y] x.min.toNat a k) (hrn : r = (x.max - x.min).toNat) (ho : OptPre x.lazy y r (a + k.length) kx js) (hkp : kp.length = kx.length)
    (hp : ∀ l, Has l (a + k.length) kp → Pat l (a + k.length) kx js (turnTo x.lazy (a + k.length + kx.length))) : Codes x a (k ++ kp) := fun l hl => by
  subst hrn
  rw [List.length_append, hkp, ← Nat.add_assoc]
  refine (blk_eq l x a _).2 ⟨fun _ => by omega, fun _ => by omega, fun _ => by omega, fun _ => by omega, fun _ => by omega, fun _ => ⟨a + k.length, by rw [hk]; exact hr l hl.left, fun h => (hm h).elim, fun _ => ?_⟩, fun _ => by omega, fun _ => by omega⟩
  rw [hk]
  exact ho.blk l _ (hp l hl.right) 0 rfl
end
end Go.Proofs.Ytgboffefbpligaa
namespace Go.Proofs.Ytgboffefbpligaa
open Go.Proofs
open Go.W Go.RowKit
attribute [local irreducible] Decidable.decide
set_option linter.unusedSimpArgs false
set_option linter.unusedVariables false
theorem Try.app46_46 : appB Try.prog 46 46 = some (3, 1, 8) := by kernel_rfl
theorem Try.build44 : Build Try.prog 44 #[(0, 1), (1, 1), (2, 1), (3, 1), (4, 1)] #[.int .i64 0, .int .i64 0, .int .i64 0, .int .i64 0, .slice none 0 0] := ⟨_, .agg #[.int .i64 0, .int .i64 0, .int .i64 0, .int .i64 0, .slice none 0 0], Try.underlying44, by kernel_rfl, rfl, fun w => by kernel_rfl⟩
theorem Try.elem46 : elemB Try.prog 46 = some 1 := by kernel_rfl
theorem Try.goes16 : Goes Try.prog 16 := ⟨_, Try.func16, by kernel_rfl, by kernel_rfl⟩
theorem Try.goes31 : Goes Try.prog 31 := ⟨_, Try.func31, by kernel_rfl, by kernel_rfl⟩
theorem Try.goes55 : Goes Try.prog 55 := ⟨_, Try.func55, by kernel_rfl, by kernel_rfl⟩
theorem Try.slice46 : sliceB Try.prog 46 = some (3, 1) := by kernel_rfl
theorem CdAt.mod {w w' : World} {cb : Nat} {es : List Iv} {a : Option Addr} {c k : Nat} {ob : Option Nat} {Z : List Nat} {f : Iv → Iv} (h : CdAt w cb es a c ob Z) (he : Evo ob.toList w w') (ho : OwnS w' 44 5 a es.length c (flat (es.modify k f)) ob) (hf : ∀ e, (f e).2 = e.2 ∧ (f e).1.rs = e.1.rs) : CdAt w' cb (es.modify k f) a c ob Z := by
  refine ⟨?_, by rw [List.length_modify]; exact ho, h.ne, fun e hm => ?_⟩
  · rw [List.length_modify]
    exact he.blk h.blk (fun hm => h.ne cb (by simpa using hm) rfl)
  · obtain ⟨i, hi, rfl⟩ := List.getElem_of_mem hm
    rw [List.getElem_modify]
    have hi' : i < es.length := by simpa using hi
    have h1 := rrg_step (h.rs es[i] (List.getElem_mem hi')) (he.mono (fun b hb => List.mem_cons_of_mem _ (List.mem_append_left _ hb))) (fun y hy => .inl hy)
    split
    · rw [(hf _).1, (hf _).2]; exact h1
    · exact h1
theorem turnC_ok {w : World} {cb : Nat} {es : List Iv} {a : Option Addr} {c k : Nat} {ob : Option Nat} {Z : List Nat} {i o : Int} {z : Bool} (h : CdAt w cb es a c ob Z) (hk : k < es.length) :
    Calls Try.prog 55 #[.slice a es.length c, .int .i64 (k : Nat), .int .i64 i, .int .i64 o, .bool z] w (Ret fun v w' => v = .tuple #[] ∧ Evo ob.toList w w' ∧ CdAt w' cb (es.modify k (fun e => (⟨e.1.op, if z then o else i, if z then i else o, e.1.arg, e.1.rs⟩, e.2))) a c ob Z) :=
  (turn_ok h.own hk).mono fun e w' ⟨v, h1, h2, h3, h4⟩ => ⟨v, h1, h2, h3, h.mod h3 h4 (fun _ => ⟨rfl, rfl⟩)⟩
theorem nmem2o {jb : Nat} {o ob : Option Nat} (h1 : Apart o (some jb)) (h2 : Apart o ob) : ∀ g, o = some g → g ∉ jb :: ob.toList := fun g hg => by subst hg; exact nmem2 h1 h2
theorem addr0 {b o c sz : Nat} : (if c = 0 then (some (⟨b, o, none⟩ : Addr)) else (some (⟨b, o, none⟩ : Addr)).map (·.add (0 * sz))) = some ⟨b, o, none⟩ := by
  split
  · rfl
  · simp [Addr.add]
theorem mod_mid {A B : List Iv} {x y : Iv} {f : Iv → Iv} {k : Nat} (hk : k = A.length) : (((A ++ [x]) ++ B) ++ [y]).modify k f = A ++ ([f x] ++ (B ++ [y])) := by
  subst hk
  rw [List.append_assoc, List.append_assoc]
  induction A with
  | nil => simp [List.modify]
  | cons a A ih => rw [List.cons_append, List.length_cons, modify_cons_succ, ih]; rfl
theorem nice_split (o al : Int) (ho : 0 ≤ o) (ha : 0 ≤ al) : Nice ⟨3, o, al, 0, []⟩ := ⟨by simp, ho, ha, Nat.zero_le _⟩
theorem nice_sp (z : Bool) (a b : Nat) : Nice (In.sp z a b) := by unfold In.sp; split <;> exact ⟨by simp, Int.natCast_nonneg _, Int.natCast_nonneg _, Nat.zero_le _⟩
theorem nice_jump (n : Nat) : Nice ⟨10, (n : Int) + 1, 0, 0, []⟩ := ⟨by simp, by show (0 : Int) ≤ (n : Int) + 1; omega, Int.le_refl _, Nat.zero_le _⟩
theorem nice_app {A B : List Iv} (hA : ∀ e, e ∈ A → Nice e.1) (hB : ∀ e, e ∈ B → Nice e.1) : ∀ e, e ∈ A ++ B → Nice e.1 := fun e he => by rcases List.mem_append.1 he with h | h; exact hA e h; exact hB e h
theorem nice_one {x : Iv} (h : Nice x.1) : ∀ e, e ∈ [x] → Nice e.1 := fun e he => by rw [List.mem_singleton] at he; subst he; exact h
theorem nice_patch {f : Nat → Iv → Iv} {new new' : List Iv} {js : List Nat} {n : Nat} (h : ∀ e, e ∈ new → Nice e.1) (hl : new'.length = new.length) (hg : ∀ i (h : i < new.length), new'[i]? = some (if n + i ∈ js then f (n + i) new[i] else new[i])) (hf : ∀ p e, Nice e.1 → Nice (f p e).1) : ∀ e, e ∈ new' → Nice e.1 := fun e he => by
  obtain ⟨i, hi, rfl⟩ := List.getElem_of_mem he
  have h1 := hg i (by omega)
  rw [List.getElem?_eq_getElem hi, Option.some.injEq] at h1
  rw [h1]
  have h2 := h _ (List.getElem_mem (show i < new.length by omega))
  split
  · exact hf _ _ h2
  · exact h2
theorem setOut_len {es : List Iv} {k n : Nat} (h : es.length = n) : es.modify k (Iv.setOut (es.length : Nat)) = es.modify k (Iv.outTo n k) := by subst h; rfl
theorem CdAt.cast {w : World} {cb : Nat} {es es' : List Iv} {a : Option Addr} {c : Nat} {ob : Option Nat} {Z : List Nat} (h : CdAt w cb es a c ob Z) (e : es = es') : CdAt w cb es' a c ob Z := e ▸ h
theorem own_ints {w : World} {e : TypeId} {a : Option Addr} {n c : Nat} {ys : List Nat} {ob : Option Nat} (h : OwnS w e 1 a n c (ys.map fun p => iv (p : Nat)) ob) (h0 : 0 < n) : ∃ g, a = some ⟨g, 0, none⟩ ∧ ∀ k (hk : k < ys.length), w.cell? ⟨g, 0 + k * 1, none⟩ = some (iv (ys[k] : Nat)) := by
  obtain ⟨g, hg, ha, hc⟩ := h.cells h0
  refine ⟨g, ha, fun k hk => ?_⟩
  rw [Nat.mul_one]
  exact hc k _ (by simp [hk])
theorem eszs_le {l : List Rx} {j : Nat} (h : j < l.length) : eszs (l.take j) + l[j].esz ≤ eszs l := by
  rw [← eszs_take h]
  have : ∀ (l : List Rx) (k : Nat), eszs (l.take k) ≤ eszs l := by
    intro l
    induction l with
    | nil => intro k; simp
    | cons x xs ih =>
      intro k
      cases k with
      | zero => rw [List.take_zero, eszs]; exact Nat.zero_le _
      | succ k => rw [List.take_succ_cons, eszs, eszs]; have := ih k; omega
  exact this l (j + 1)
structure ChG where
  j : Nat
  new : List Iv
  pa : Option Addr
  pc : Nat
  po : Option Nat
  js : List Nat
  ja : Option Addr
  jc : Nat
  jo : Option Nat
structure ChI (w wr : World) (cb : Nat) (es : List Iv) (ob : Option Nat) (Z : List Nat) (ks : List Rx) (x : ChG) : Prop where
  j : x.j + 1 ≤ ks.length
  cd : CdAt wr cb (es ++ x.new) x.pa x.pc x.po (x.jo.toList ++ Z)
  po : x.po = ob ∨ ∃ g, x.po = some g ∧ w.heap.size ≤ g
  pre : AltPre (ks.take x.j) es.length (x.new.map (·.1)) x.js
  len : x.new.length ≤ eszs (ks.take x.j) + 2 * x.j
  jl : x.js.length = x.j
  nice : ∀ e, e ∈ x.new → Nice e.1
  jo : OwnS wr 3 1 x.ja x.j x.jc (x.js.map fun p => iv (p : Nat)) x.jo
  ap1 : Apart (some cb) x.jo
  ap2 : Apart x.po x.jo
  ge : Ge w x.jo
theorem mem_joZ {w1 wb : World} {jo jo2 : Option Nat} {Z : List Nat} {X : List Nat} (he : Evo X w1 wb) (h : jo2 = jo ∨ ∃ g, jo2 = some g ∧ wb.heap.size ≤ g) : ∀ z, z ∈ jo2.toList ++ Z → z ∈ jo.toList ++ Z ∨ w1.heap.size ≤ z := fun z hz => by
  rcases List.mem_append.1 hz with h1 | h1
  · rcases h with rfl | ⟨g, h2, h3⟩
    · left; exact List.mem_append_left _ h1
    · right; have := he.size; rw [h2] at h1; simp at h1; omega
  · left; exact List.mem_append_right _ h1
theorem ltZ {w w1 : World} {X : List Nat} {o : Option Nat} {Z : List Nat} (hZ : ∀ z, z ∈ Z → z < w.heap.size) (he : Evo X w w1) (ho : Lt w1 o) : ∀ z, z ∈ o.toList ++ Z → z < w1.heap.size := fun z hz => by
  rcases List.mem_append.1 hz with h | h
  · exact ho z (by simpa using h)
  · exact Nat.lt_of_lt_of_le (hZ z h) he.size
set_option maxHeartbeats 4000000 in
theorem choice_step {n : Nat} (ih : ∀ {w : World} {cb : Nat} {es : List Iv} {a : Option Addr} {c : Nat} {ob : Option Nat} {Z : List Nat} {vs : List Value} {t : Rx} (hC : CdAt w cb es a c ob Z) (hx : RRx n (cb :: ob.toList) w vs t) (hg : Good t) (hl : es.length + t.esz ≤ 100000) (hZ : ∀ z, z ∈ Z → z < w.heap.size), Calls Try.prog 16 #[.pointer (some ⟨cb, 0, none⟩), .agg vs.toArray] w (Ret fun v w' => v = .tuple #[] ∧ Evo (cb :: ob.toList) w w' ∧ ∃ new, CdTo w w' cb ob (es ++ new) Z ∧ Codes t es.length (new.map (·.1)) ∧ new.length ≤ t.esz ∧ ∀ e, e ∈ new → Nice e.1)) {w : World} {cb : Nat} {es : List Iv} {a : Option Addr} {c : Nat} {ob : Option Nat} {Z : List Nat} {vk : Value} {ks : List Rx} (hC : CdAt w cb es a c ob Z) (hk : RSl 9 (RRx n) (cb :: ob.toList) w vk ks) (hkl : 2 ≤ ks.length) (hkb : ks.length ≤ 140737488351232) (hg : ∀ k, k ∈ ks → Good k) (hl : es.length + (eszs ks + 2 * (ks.length - 1)) ≤ 100000) (hZ : ∀ z, z ∈ Z → z < w.heap.size) : Calls Try.prog 33 #[.pointer (some ⟨cb, 0, none⟩), vk] w (Ret fun v w' => v = .tuple #[] ∧ Evo (cb :: ob.toList) w w' ∧ ∃ new, CdTo w w' cb ob (es ++ new) Z ∧ (∀ l, Has l es.length (new.map (·.1)) → BlkA l ks es.length (es.length + new.length)) ∧ new.length ≤ eszs ks + 2 * (ks.length - 1) ∧ ∀ e, e ∈ new → Nice e.1) := by
  have hXlt := hC.lt; obtain ⟨ka, kc, rfl, hkc, e1⟩ := hk; obtain ⟨bk, ok, vk0, rfl, -⟩ := id (e1 0 (by omega)); refine calls_of_cw (N := 69) Try.func33 rfl rfl rfl ?_; refine cw_seq ?_; refine cw_region ?_; refine wl_a ?_; refine wl_nil (nrm_then ?_); refine cw_seq ?_; refine cw_seq ?_; refine cw_region ?_; refine wl_m ?_; refine wl_m ?_; refine wl_val rfl (ex_len_slice rfl Try.underlying23 rfl) ?_; refine wl_val rfl (ex_sub_i64 rfl rfl (by omega) (by omega)) ?_; refine wl_val rfl (ex_sliceTo (h := ks.length - 1) rfl rfl Try.underlying23 Try.size25 (by omega) (by omega) hkc) ?_; rw [addr0]; refine wl_val rfl (ex_len_slice rfl Try.underlying23 rfl) ?_; refine wl_m ?_; refine wl_nil (nrm_then ?_); refine cw_block ?_
  refine cw_loop (α := ChG) (⟨0, [], a, c, ob, [], none, 0, none⟩) (fun x => [(16, .int .i64 (x.j : Nat)), (4, .slice x.ja x.j x.jc)]) [(0, _), (1, _), (14, _), (15, _)] (fun x wr => Evo (cb :: ob.toList) w wr ∧ (ChI w wr cb es ob Z ks x)) (fun x => ks.length - x.j) ⟨rfl, rfl, trivial⟩ ⟨rfl, rfl, rfl, rfl, trivial⟩ ⟨(Evo.refl (cb :: ob.toList) w), ⟨by show 0 + 1 ≤ _; omega, by rw [List.append_nil]; exact hC.evo0 (Evo.refl [] w), .inl rfl, AltPre.nil _, Nat.zero_le _, rfl, (fun _ h => by cases h), OwnS.nil _ _ _, Apart.nil _, Apart.nil _, Ge.nil _⟩⟩ ?_
  rintro ⟨j, new, pa, pc, po, js, ja, jc, jo⟩ wr1 ⟨hV2, ⟨hj, hcd, hq, hpre, hlen, hjl, hnice, hjo, hap1, hap2, hge⟩⟩; show CW _ _ _ _ [(16, .int .i64 (j : Nat)), (4, .slice ja j jc), (0, _), (1, _), (14, _), (15, _)] _
  try dsimp only at hj
  try dsimp only at hcd
  try dsimp only at hq
  try dsimp only at hpre
  try dsimp only at hlen
  try dsimp only at hjl
  try dsimp only at hnice
  try dsimp only at hjo
  try dsimp only at hap1
  try dsimp only at hap2
  try dsimp only at hge
  have hE3 := Evo.refl ([]) wr1
  have hAJN : Apart (some cb) po := fun g h1 h2 => by cases h1; exact hcd.ne cb h2 rfl
  refine cw_seq ?_; refine cw_region ?_; refine wl_val rfl (ex_lss rfl rfl) ?_; refine wl_nil (nrm_then ?_); refine cw_seq ?_; refine cw_if rfl (fun hc17 => ?_) (fun hc17 => ?_)
  ·skip
   have hj' : j < ks.length := by omega
   obtain ⟨_, _, vs1, ha1, hb1, hvl1, hc1, hrk⟩ := e1 j hj'; cases ha1; obtain ⟨m1, ra1, rc1, ka1, kc1, rfl, rfl, -⟩ := id hrk.get; have hek := eszs_le hj'; have hsn : (es ++ new).length = es.length + new.length := List.length_append; refine cw_skip (nrm_then ?_); refine cw_seq ?_; refine cw_block ?_; refine cw_seq ?_; refine cw_region ?_; refine wl_val rfl (ex_indexAddr (n := j) rfl rfl Try.elem23 (by omega)) ?_; refine wl_val rfl (ex_loadA rfl Try.agg25 Try.size25 (vs := [_, _, _, _, _, _, _, _, _]) rfl (hc1.evo hV2 hb1)) ?_; refine wl_alloc rfl Try.zero25 fun b6 w4 hB5 hs6 hw7 => ?_; have hsz_b6 := hs6; have hA8 := Apart.new (Lt.blk hcd.blk) hs6; have hA9 := Apart.new (Lt.own hcd.own) hs6; have hA10 := Apart.new (Lt.own hjo) hs6; have hG11 := Ge.new hV2 hs6; have hG12 := Ge.new hE3 hs6; have hG13 := Ge.new hE3 hs6; have hE14 := hV2.then hw7; have hE15 := hE3.then hw7; have hE16 := hE3.then hw7; have hB17 := hw7.blk0 hcd.blk; have hO18 := hcd.own.evo0 hw7; have hO19 := hjo.evo0 hw7; refine wl_storeBlk rfl rfl Try.size25 hB5 rfl rfl ⟨by first | rfl | assumption, by first | rfl | assumption, by first | rfl | assumption, by first | rfl | assumption, by first | rfl | assumption, by first | rfl | assumption, by first | rfl | assumption, by first | rfl | assumption, by first | rfl | assumption, trivial⟩ fun w20 hB21 hw22 => ?_; have hE23 := hE14.step hw22 hG11.mem1; have hE24 := hE15.step hw22 hG12.mem1; have hE25 := hE16.step hw22 hG13.mem1; have hB26 := hw22.blk hB17 hA8.nmem1; have hO27 := hO18.evo hw22 hA9.own1; have hO28 := hO19.evo hw22 hA10.own1
   try simp only [List.setIfInBounds_toArray, List.set_cons_zero, List.set_cons_succ, Nat.reduceAdd, Nat.zero_add, Nat.add_zero] at hB21
   refine wl_nil (nrm_then ?_); refine cw_seq ?_; refine cw_region ?_; refine wl_m ?_; refine wl_val rfl (ex_build (vs := [(0, _)]) Try.build44 rfl (cells := [_, _, _, _, _]) rfl) ?_
   refine wl_call1 (vs := [_, _]) Try.goes31 rfl (put_ok (rs := []) (hcd.evo0 hE25) rnil0 (by rw [List.length_append]; omega)) rfl ?_
   rintro _ w29 ⟨rfl, hw30, hto1⟩; have hlt_JS_1 := (Lt.own hO28); have hlt_b6_1 := (Lt.blk hB21); have hev_1 := hE23; have hE31 := hE23.step hw30 (mem_ob hq); have hB32 := hO28.evo hw30 (nmem2o hap1.symm hap2.symm); have hB33 := hw30.blk hB21 (nmem2 hA8.symm hA9.symm); obtain ⟨pa_1, pc_1, po_1, hC_1, hp_1⟩ := hto1; have hq_1 := fr_trans hq hev_1 hp_1; have hA_JS_1 := ap_ob hap2.symm hlt_JS_1 hp_1; have hA_b6_1 := ap_ob hA9.symm hlt_b6_1 hp_1
   have hAJN_1 : Apart (some cb) po_1 := fun g h1 h2 => by cases h1; exact hC_1.ne cb h2 rfl
   refine wl_a ?_; refine wl_nil (nrm_then ?_); refine cw_seq ?_; refine cw_region ?_; refine wl_m ?_; refine wl_val rfl (ex_loadBlk rfl Try.agg25 Try.size25 hB33 rfl) ?_
   refine wl_call1 (vs := [_, _]) Try.goes16 rfl (ih (t := ks[j]) (hC_1.evo (Evo.refl jo.toList w29) hap1.nmem hA_JS_1.symm.own (fun y hy => List.mem_append_left _ hy) (fun z hz => .inl hz)) (RRx.step hrk hE31 (mem_ob hq_1) hXlt) (hg _ (List.getElem_mem hj')) (by have := hek; simp only [List.length_append, List.length_cons, List.length_nil]; omega) (ltZ hZ hE31 (Lt.own hB32))) rfl ?_
   rintro _ w34 ⟨-, hw35, kx, hto2, hkx, hkl, hkn⟩; have hlt_JS_2 := (Lt.own hB32); have hlt_b6_2 := (Lt.blk hB33); have hev_2 := hE31; have hE36 := hE31.step hw35 (mem_ob hq_1); have hB37 := hB32.evo hw35 (nmem2o hap1.symm hA_JS_1); have hB38 := hw35.blk hB33 (nmem2 hA8.symm hA_b6_1); obtain ⟨pa_2, pc_2, po_2, hC_2, hp_2⟩ := hto2; have hq_2 := fr_trans hq_1 hev_2 hp_2; have hA_JS_2 := ap_ob hA_JS_1 hlt_JS_2 hp_2; have hA_b6_2 := ap_ob hA_b6_1 hlt_b6_2 hp_2
   have hAJN_2 : Apart (some cb) po_2 := fun g h1 h2 => by cases h1; exact hC_2.ne cb h2 rfl
   refine wl_nil (nrm_then ?_); refine cw_seq ?_; refine cw_region ?_; refine wl_m ?_; refine wl_m ?_; refine wl_val rfl (ex_build (vs := [(0, _)]) Try.build44 rfl (cells := [_, _, _, _, _]) rfl) ?_
   refine wl_call1 (vs := [_, _]) Try.goes31 rfl (put_ok (rs := []) (hC_2.evo (Evo.refl jo.toList w34) hap1.nmem hA_JS_2.symm.own (fun y hy => List.mem_append_left _ hy) (fun z hz => .inl hz)) rnil0 (by have := hek; simp only [List.length_append, List.length_cons, List.length_nil]; omega)) rfl ?_
   rintro _ w39 ⟨rfl, hw40, hto3⟩; have hlt_JS_3 := (Lt.own hB37); have hlt_b6_3 := (Lt.blk hB38); have hev_3 := hE36; have hE41 := hE36.step hw40 (mem_ob hq_2); have hB42 := hB37.evo hw40 (nmem2o hap1.symm hA_JS_2); have hB43 := hw40.blk hB38 (nmem2 hA8.symm hA_b6_2); obtain ⟨pa_3, pc_3, po_3, hC_3, hp_3⟩ := hto3; have hq_3 := fr_trans hq_2 hev_3 hp_3; have hA_JS_3 := ap_ob hA_JS_2 hlt_JS_3 hp_3; have hA_b6_3 := ap_ob hA_b6_2 hlt_b6_3 hp_3
   have hAJN_3 : Apart (some cb) po_3 := fun g h1 h2 => by cases h1; exact hC_3.ne cb h2 rfl
   refine wl_bslice (vs := [_]) rfl Try.slice46 rfl rfl rfl rfl fun b44 w45 hO46 hs47 hw48 => ?_; have hA49 := Apart.new (Lt.own hB42) hs47; have hA50 := Apart.new (Lt.blk hB43) hs47; have hA51 := Apart.new (Lt.blk hC_3.blk) hs47; have hA52 := Apart.new (Lt.own hC_3.own) hs47; have hG53 := Ge.new hE41 hs47; have hG54 := Ge.new (Evo.refl jo.toList w39) hs47; have hE55 := hE41.then hw48; have hE56 := (Evo.refl jo.toList w39).then hw48; have hO57 := hB42.evo0 hw48; have hB58 := hw48.blk0 hB43; have hB59 := hw48.blk0 hC_3.blk; have hO60 := hC_3.own.evo0 hw48; have hev4 := hE55; have hcd4 := hE56; have hge4 := hge; refine wl_append rfl rfl rfl rfl Try.app46_46 hO57 (Src.ofOwn hO46 ⟨by first | rfl | assumption, trivial⟩) (by omega) fun ja2 jc2 w63 jo2 hO2 hw66 hob67 => ?_; have hA68 := hA10.symm.app (Lt.blk hB58) hob67; have hA69 := hap1.app (Lt.blk hB59) hob67; have hA70 := hA_JS_3.symm.app (Lt.own hO60) hob67; have hA71 := hA49.symm.app (Lt.own hO46) hob67; have hG72 := hge.app hE55 hob67; have hE73 := hE55.step hw66 hge.mem; have hE74 := hE56.step hw66 (fun y hy => .inl hy); have hB75 := hw66.blk hB58 hA10.symm.nmem; have hB76 := hw66.blk hB59 hap1.nmem; have hO77 := hO60.evo hw66 hA_JS_3.symm.own; have hO78 := hO46.evo hw66 hA49.symm.own; have hjo2 := hob67; refine wl_a ?_; refine wl_nil (nrm_then ?_); refine cw_any (fun w0 w' => Evo po_3.toList w0 w') (by kernel_rfl) (fun w79 hw80 => ?_); have hE81 := hE73.then hw80; have hE82 := hE74.then hw80; have hB83 := hw80.blk0 hB75; have hB84 := hw80.blk0 hB76; have hO85 := hO77.evo0 hw80; have hO86 := hO2.evo0 hw80; refine ae_take 0 rfl (by kernel_rfl) (by kernel_rfl) (by kernel_rfl) rfl (fun _ hS => ex_move rfl) (Evo.refl po_3.toList w79) ?_
   refine ae_take 1 rfl (by kernel_rfl) (by kernel_rfl) (by kernel_rfl) rfl (fun _ hS => ex_nilCheck rfl) (Evo.refl po_3.toList w79) ?_; refine ae_take 2 rfl (by kernel_rfl) (by kernel_rfl) (by kernel_rfl) rfl (fun _ hS => ex_load1 rfl Try.agg41 (cell_nth (hS.blk hB84 (hAJN_3.nmem)) rfl)) (Evo.refl po_3.toList w79) ?_; refine ae_take 3 rfl (by kernel_rfl) (by kernel_rfl) (by kernel_rfl) rfl (fun _ hS => ex_move rfl) (Evo.refl po_3.toList w79) ?_; refine ae_take 4 rfl (by kernel_rfl) (by kernel_rfl) (by kernel_rfl) rfl (fun _ hS => ex_move rfl) (Evo.refl po_3.toList w79) ?_; refine ae_take 5 rfl (by kernel_rfl) (by kernel_rfl) (by kernel_rfl) rfl (fun _ hS => ex_add_i64 rfl rfl (by omega) (by omega)) (Evo.refl po_3.toList w79) ?_; refine ae_take 6 rfl (by kernel_rfl) (by kernel_rfl) (by kernel_rfl) rfl (fun _ hS => ex_move rfl) (Evo.refl po_3.toList w79) ?_; refine ae_take 7 rfl (by kernel_rfl) (by kernel_rfl) (by kernel_rfl) rfl (fun _ hS => ex_nilCheck rfl) (Evo.refl po_3.toList w79) ?_; refine ae_take 8 rfl (by kernel_rfl) (by kernel_rfl) (by kernel_rfl) rfl (fun _ hS => ex_load1 rfl Try.agg41 (cell_nth (hS.blk hB84 (hAJN_3.nmem)) rfl)) (Evo.refl po_3.toList w79) ?_; refine ae_take 9 rfl (by kernel_rfl) (by kernel_rfl) (by kernel_rfl) rfl (fun _ hS => ex_len_slice rfl Try.underlying41 rfl) (Evo.refl po_3.toList w79) ?_; refine ae_loud [10] (by kernel_rfl) rfl ⟨?_, trivial⟩; refine a_step rfl ?_; have hC4 := hC_3.evo hE82 hap1.nmem hA_JS_3.symm.own (fun y hy => List.mem_append_left _ hy) (mem_joZ hcd4 hjo2)
   refine wl_call1 (vs := [_, _, _, _, _]) Try.goes55 rfl (turnC_ok (k := (es ++ new).length) (hC4.evo0 (Evo.refl [] w79)) (by simp only [List.length_append, List.length_cons, List.length_nil]; omega)) rfl ?_
   rintro _ w87 ⟨rfl, hw88, hT_5⟩; have hE89 := hE81.step hw88 (fun y hy => mem_ob hq_3 y (List.mem_cons_of_mem _ hy)); have hE90 := (Evo.refl po_3.toList w79).step hw88 (fun y hy => .inl hy); have hB91 := hw88.blk hB83 (hA_b6_3.nmem); have hB92 := hw88.blk hB84 (hAJN_3.nmem); have hB93 := hO86.evo hw88 (hA70.symm.own); refine wl_nil (ae_next (.inl hE90) ?_); refine ae_done (by kernel_rfl) (nrm_block (nrm_then ?_)); refine cw_region ?_; refine wl_val rfl (ex_add_i64 rfl rfl (by omega) (by omega)) ?_; refine wl_m ?_; refine wl_nil (nrm_same ?_); refine ⟨⟨j + 1, new ++ ([(In.sp false (es.length + new.length + 1) (es.length + new.length + 1 + kx.length + 1), .slice none 0 0)] ++ (kx ++ [(⟨10, ((es.length + new.length + 1 + kx.length : Nat) : Int) + 1, 0, 0, []⟩, .slice none 0 0)])), pa_3, pc_3, po_3, js ++ [es.length + new.length + 1 + kx.length], ja2, jc2, jo2⟩, ?_, ⟨rfl, rfl, trivial⟩, ⟨rfl, rfl, rfl, rfl, trivial⟩, hE89, ?_⟩
   · (try dsimp only); omega
   ·skip
    try dsimp only
    have hkx' : Codes ks[j] (es.length + new.length + 1) (kx.map (·.1)) := by have h := hkx; rwa [List.length_append, List.length_append] at h
    have hs := hpre.snoc (x := ks[j]) (kx := kx.map (·.1)) (o := ((es.length + new.length + 1 + kx.length : Nat) : Int) + 1) (m' := es.length + new.length + 1 + kx.length) (by rw [List.length_map]; exact hkx') (by rw [List.length_map, List.length_map])
    rw [List.length_map] at hs; have hT := hT_5; rw [mod_mid rfl] at hT
    refine ⟨by show j + 1 + 1 ≤ _; omega, hT.cast ?_, hq_3, ?_, ?_, ?_, ?_, ?_, hA69, hA70, hG72⟩
    · rw [List.append_assoc]; refine congrArg (es ++ ·) (congrArg (new ++ ·) ?_)
      simp only [In.sp, List.length_append, List.length_cons, List.length_nil, List.singleton_append, Bool.false_eq_true, if_false]; push_cast; simp [Int.add_assoc, Nat.add_assoc]
    · show AltPre (ks.take (j + 1)) _ _ _
      rw [List.take_add_one, List.getElem?_eq_getElem hj']; rw [List.map_append, List.map_append, List.map_append]; exact hs
    · show _ ≤ eszs (ks.take (j + 1)) + 2 * (j + 1)
      rw [eszs_take hj']; simp only [List.length_append, List.length_cons, List.length_nil]; omega
    · show (js ++ [_]).length = j + 1; rw [List.length_append, hjl]; rfl
    · exact nice_app hnice (nice_app (nice_one (nice_sp _ _ _)) (nice_app hkn (nice_one (nice_jump _))))
    · have h : OwnS _ 3 1 ja2 (j + 1) jc2 (js.map (fun p => iv (p : Nat)) ++ [iv (((((es ++ new) ++ [_]) ++ kx).length : Nat))]) jo2 := hB93
      simp only [List.length_append, List.length_cons, List.length_nil, Nat.zero_add] at h
      show OwnS _ 3 1 ja2 (j + 1) jc2 ((js ++ [_]).map _) jo2; rw [List.map_append]; exact h
  ·skip
   obtain rfl : j = ks.length - 1 := by omega
   have hj' : ks.length - 1 < ks.length := by omega
   obtain ⟨_, _, vs1, ha1, hb1, hvl1, hc1, hrk⟩ := e1 (ks.length - 1) hj'; cases ha1; obtain ⟨m1, ra1, rc1, ka1, kc1, rfl, rfl, -⟩ := id hrk.get; have hek := eszs_le hj'; have hsn : (es ++ new).length = es.length + new.length := List.length_append; refine cw_exit (ex_then (ex_then (ex_here (nrm_then ?_)))); refine cw_seq ?_; refine cw_region ?_; refine wl_m ?_; refine wl_m ?_; refine wl_m ?_; refine wl_val rfl (ex_len_slice rfl Try.underlying23 rfl) ?_; refine wl_val rfl (ex_sub_i64 rfl rfl (by omega) (by omega)) ?_; refine wl_val rfl (ex_indexAddrZ (n := ks.length - 1) rfl rfl (by omega) Try.elem23 (by omega)) ?_; refine wl_val rfl (ex_loadA rfl Try.agg25 Try.size25 (vs := [_, _, _, _, _, _, _, _, _]) rfl (hc1.evo hV2 hb1)) ?_
   refine wl_call1 (vs := [_, _]) Try.goes16 rfl (ih (t := ks[ks.length - 1]) (hcd.evo0 hE3) (RRx.step hrk hV2 (mem_ob hq) hXlt) (hg _ (List.getElem_mem hj')) (by have := hek; simp only [List.length_append]; omega) (ltZ hZ hV2 (Lt.own hjo))) rfl ?_
   rintro _ w94 ⟨-, hw95, kx, hto7, hkx, hkl, hkn⟩; have hlt_JS_7 := (Lt.own hjo); have hev_7 := hV2; have hE96 := hV2.step hw95 (mem_ob hq); have hB97 := hjo.evo hw95 (nmem2o hap1.symm hap2.symm); obtain ⟨pa_7, pc_7, po_7, hC_7, hp_7⟩ := hto7; have hq_7 := fr_trans hq hev_7 hp_7; have hA_JS_7 := ap_ob hap2.symm hlt_JS_7 hp_7
   have hAJN_7 : Apart (some cb) po_7 := fun g h1 h2 => by cases h1; exact hC_7.ne cb h2 rfl
   refine wl_nil (nrm_then ?_); refine cw_seq ?_; refine cw_region ?_; refine wl_m ?_; refine wl_val rfl (ex_len_slice rfl Try.underlying46 rfl) ?_; refine wl_m ?_; refine wl_nil (nrm_then ?_); refine cw_block ?_
   refine cw_loop (α := Nat) (0) (fun i => [(54, .int .i64 (i : Nat))]) [(0, _), (52, _), (53, _)] (fun i wr => Evo (cb :: ob.toList) w wr ∧ (i ≤ js.length ∧ CdAt wr cb (patch (Iv.outTo (es.length + new.length + kx.length)) (js.take i) (es ++ (new ++ kx))) pa_7 pc_7 po_7 (jo.toList ++ Z) ∧ OwnS wr 3 1 ja (ks.length - 1) jc (js.map fun p => iv (p : Nat)) jo)) (fun i => js.length - i) ⟨rfl, trivial⟩ ⟨rfl, rfl, rfl, trivial⟩ ⟨hE96, ⟨Nat.zero_le _, by rw [List.take_zero, ← List.append_assoc]; exact hC_7.evo0 (Evo.refl [] w94), hB97⟩⟩ ?_
   rintro i wr98 ⟨hV99, ⟨hi, hcd2, hjo2⟩⟩; show CW _ _ _ _ [(54, _), (0, _), (52, _), (53, _)] _; have hE100 := Evo.refl (po_7.toList) wr98
   have hpl : (patch (Iv.outTo (es.length + new.length + kx.length)) (js.take i) (es ++ (new ++ kx))).length = es.length + new.length + kx.length := by rw [patch_length]; simp only [List.length_append]; omega
   refine cw_seq ?_; refine cw_region ?_; refine wl_val rfl (ex_lss rfl rfl) ?_; refine wl_nil (nrm_then ?_); refine cw_seq ?_; refine cw_if rfl (fun hc55 => ?_) (fun hc55 => ?_)
   ·skip
    have hi' : i < js.length := by omega
    have hat := hpre.at' js[i] (List.getElem_mem hi')
    rw [List.length_map] at hat; obtain ⟨gJ, haJ, hcJ⟩ := own_ints hjo2 (by omega); refine cw_skip (nrm_then ?_); refine cw_seq ?_; refine cw_block ?_; refine cw_seq ?_; refine cw_region ?_
    refine wl_val rfl (ex_indexAddr (n := i) (by rw [haJ]; rfl) rfl Try.elem46 (by omega)) ?_
    refine wl_val rfl (ex_load1 rfl Try.agg3 (hcJ i hi')) ?_; refine wl_a ?_; refine wl_nil (nrm_then ?_); refine cw_any (fun w0 w' => Evo po_7.toList w0 w') (by kernel_rfl) (fun w101 hw102 => ?_); have hE103 := hV99.then hw102; have hE104 := hE100.then hw102; have hB105 := hw102.blk0 hcd2.blk; have hO106 := hcd2.own.evo0 hw102; have hO107 := hjo2.evo0 hw102; refine ae_take 0 rfl (by kernel_rfl) (by kernel_rfl) (by kernel_rfl) rfl (fun _ hS => ex_move rfl) (Evo.refl po_7.toList w101) ?_; refine ae_take 1 rfl (by kernel_rfl) (by kernel_rfl) (by kernel_rfl) rfl (fun _ hS => ex_nilCheck rfl) (Evo.refl po_7.toList w101) ?_; refine ae_take 2 rfl (by kernel_rfl) (by kernel_rfl) (by kernel_rfl) rfl (fun _ hS => ex_load1 rfl Try.agg41 (cell_nth (hS.blk hB105 (hAJN_7.nmem)) rfl)) (Evo.refl po_7.toList w101) ?_; refine ae_take 3 rfl (by kernel_rfl) (by kernel_rfl) (by kernel_rfl) rfl (fun _ hS => ex_move rfl) (Evo.refl po_7.toList w101) ?_; refine ae_take 4 rfl (by kernel_rfl) (by kernel_rfl) (by kernel_rfl) rfl (fun _ hS => ex_move rfl) (Evo.refl po_7.toList w101) ?_; refine ae_take 5 rfl (by kernel_rfl) (by kernel_rfl) (by kernel_rfl) rfl (fun _ hS => ex_nilCheck rfl) (Evo.refl po_7.toList w101) ?_; refine ae_take 6 rfl (by kernel_rfl) (by kernel_rfl) (by kernel_rfl) rfl (fun _ hS => ex_load1 rfl Try.agg41 (cell_nth (hS.blk hB105 (hAJN_7.nmem)) rfl)) (Evo.refl po_7.toList w101) ?_; refine ae_take 7 rfl (by kernel_rfl) (by kernel_rfl) (by kernel_rfl) rfl (fun _ hS => ex_len_slice rfl Try.underlying41 rfl) (Evo.refl po_7.toList w101) ?_; obtain ⟨gN, -, rfl, -⟩ := hO106.cells (by omega)
    have hjp : js[i] < (patch (Iv.outTo (es.length + new.length + kx.length)) (js.take i) (es ++ (new ++ kx))).length := by omega
    refine ae_take 8 rfl (by kernel_rfl) (by kernel_rfl) (by kernel_rfl) rfl (fun _ hS => ex_indexAddr (n := js[i]) rfl rfl Try.elem41 hjp) (Evo.refl po_7.toList w101) ?_; refine ae_take 9 rfl (by kernel_rfl) (by kernel_rfl) (by kernel_rfl) rfl (fun _ hS => ex_fieldAddr rfl Try.fld44_1) (Evo.refl po_7.toList w101) ?_; refine ae_loud [10] (by kernel_rfl) rfl ⟨?_, trivial⟩; refine a_step rfl ?_
    obtain ⟨g117, cur108, hg109, hx110, hcu111, hcs112, -⟩ := hO106.at (by omega)
    cases hx110; refine wl_store1L rfl rfl (rfl) Try.size3 hcu111 (hO106.inb hcs112 (k := js[i]) (j := 1) (by omega) (by omega) (by omega)) fun w113 hB114 hw115 => ?_; replace hw115 := evo_ob hg109 hw115; have hO116 := hO106.set' hg109 hcu111 hB114; have hE118 := hE103.step hw115 (fun y hy => mem_ob hq_7 y (List.mem_cons_of_mem _ hy)); have hE119 := hE104.step hw115 (fun y hy => .inl hy); have hE120 := (Evo.refl po_7.toList w101).step hw115 (fun y hy => .inl hy); have hB121 := hw115.blk hB105 hAJN_7.nmem; have hO122 := hO107.evo hw115 hA_JS_7.own
    rw [show 0 + js[i] * 5 + 1 = js[i] * 5 + 1 from by omega, flat_setOut (by rw [hpl]; omega), setOut_len hpl] at hO116
    refine wl_nil (ae_next (.inl hE120) ?_); refine ae_done (by kernel_rfl) (nrm_block (nrm_then ?_)); refine cw_region ?_; refine wl_val rfl (ex_add_i64 rfl rfl (by omega) (by omega)) ?_; refine wl_m ?_; refine wl_nil (nrm_same ?_); refine ⟨i + 1, ?_, ⟨rfl, trivial⟩, ⟨rfl, rfl, rfl, trivial⟩, hE118, ?_⟩
    · omega
    ·skip
     refine ⟨by omega, ?_, hO122⟩; rw [List.take_add_one, List.getElem?_eq_getElem hi']; have := hcd2.mod hE119 hO116 (fun _ => ⟨rfl, rfl⟩); rw [show (js.take i ++ (some js[i]).toList) = js.take i ++ [js[i]] from rfl, patch_snoc]; exact this
   ·skip
    refine cw_exit (ex_then (ex_then (ex_here (body_end0 rfl ?_)))); have hiE : js.take i = js := List.take_of_length_le (by omega); rw [hiE] at hcd2; have hatJ : ∀ p, p ∈ js → es.length ≤ p := fun p hp => (hpre.at' p hp).1; obtain ⟨new', hn1, hn2, hn3⟩ := patch_tail (f := Iv.outTo (es.length + new.length + kx.length)) (fun _ _ => rfl) (new := new ++ kx) hatJ; rw [hn1] at hcd2
    have hnl : new'.length = new.length + kx.length := by rw [hn2, List.length_append]
    have hkx' : Codes ks[ks.length - 1] (es.length + new.length) (kx.map (·.1)) := by have h := hkx; rwa [List.length_append] at h
    have hks : ks = ks.take (ks.length - 1) ++ [ks[ks.length - 1]] := by rw [List.take_append_getElem, List.take_of_length_le (by omega)]
    refine ⟨rfl, hV99, new', ⟨_, _, _, hcd2.evo (Evo.refl [] _) (by simp) (by simp) (by simp) (fun z hz => .inl (List.mem_append_right _ hz)), hq_7⟩, fun l hl => ?_, by omega, nice_patch (nice_app hnice hkn) hn2 hn3 (fun p e h => ⟨h.1, Int.natCast_nonneg _, h.2.2⟩)⟩; have hp := pat_of (g := outTo (es.length + new.length + kx.length)) (fun _ _ => rfl) hn2 hn3 hl; rw [List.map_append] at hp
    have hd := hpre.done (x := ks[ks.length - 1]) (kx := kx.map (·.1)) (l := l) (by rw [List.length_map]; exact hkx') (by rw [List.length_map, List.length_map]; exact hp)
    rw [List.length_map, List.length_map, ← hks] at hd
    rw [hnl, ← Nat.add_assoc]; exact hd
end Go.Proofs.Ytgboffefbpligaa
namespace Go.Proofs.Ytgboffefbpligaa
open Go.Proofs
open Go.W Go.RowKit
attribute [local irreducible] Decidable.decide
set_option linter.unusedSimpArgs false
set_option linter.unusedVariables false
structure RpG where
  k : Nat
  new : List Iv
  pa : Option Addr
  pc : Nat
  po : Option Nat
structure RpI (w wr : World) (cb : Nat) (es : List Iv) (ob : Option Nat) (Z : List Nat) (y : Rx) (b3 : Nat) (cs : Array Value) (k : Nat) (x : RpG) : Prop where
  cd : CdAt wr cb (es ++ x.new) x.pa x.pc x.po Z
  po : x.po = ob ∨ ∃ g, x.po = some g ∧ w.heap.size ≤ g
  pre : RepC [y] k es.length (x.new.map (·.1))
  len : x.new.length ≤ k * y.esz
  nice : ∀ e, e ∈ x.new → Nice e.1
  bx : wr.heap[b3]? = some (.cells cs 25 (0, 0))
  a1 : Apart (some b3) (some cb)
  a2 : Apart (some b3) x.po
structure RqG where
  j : Nat
  new2 : List Iv
  pa : Option Addr
  pc : Nat
  po : Option Nat
  js : List Nat
  ja : Option Addr
  jc : Nat
  jo : Option Nat
structure RqI (w wr : World) (cb : Nat) (es new : List Iv) (ob : Option Nat) (Z : List Nat) (z : Bool) (y : Rx) (b3 : Nat) (cs : Array Value) (r : Nat) (x : RqG) : Prop where
  j : x.j ≤ r
  cd : CdAt wr cb (es ++ (new ++ x.new2)) x.pa x.pc x.po (x.jo.toList ++ Z)
  po : x.po = ob ∨ ∃ g, x.po = some g ∧ w.heap.size ≤ g
  pre : OptPre z y x.j (es.length + new.length) (x.new2.map (·.1)) x.js
  len : x.new2.length ≤ x.j * (y.esz + 1)
  jl : x.js.length = x.j
  nice : ∀ e, e ∈ x.new2 → Nice e.1
  jo : OwnS wr 3 1 x.ja x.j x.jc (x.js.map fun p => iv (p : Nat)) x.jo
  ap1 : Apart (some cb) x.jo
  ap2 : Apart x.po x.jo
  ge : Ge w x.jo
  bx : wr.heap[b3]? = some (.cells cs 25 (0, 0))
  a1 : Apart (some b3) (some cb)
  a2 : Apart (some b3) x.po
  a3 : Apart (some b3) x.jo
theorem single_of {l : List Rx} (h : l.length = 1) : l = [l[0]] := by
  apply List.ext_getElem
  · simp [h]
  · intro i h1 h2
    have : i = 0 := by omega
    subst this
    rfl
theorem turnM_ok {w : World} {cb : Nat} {es : List Iv} {a : Option Addr} {c k m : Nat} {ob : Option Nat} {Z : List Nat} {i o : Int} {z : Bool} (h : CdAt w cb es a c ob Z) (hm : m = es.length) (hk : k < es.length) :
    Calls Try.prog 55 #[.slice a m c, .int .i64 (k : Nat), .int .i64 i, .int .i64 o, .bool z] w (Ret fun v w' => v = .tuple #[] ∧ Evo ob.toList w w' ∧ CdAt w' cb (es.modify k (fun e => (⟨e.1.op, if z then o else i, if z then i else o, e.1.arg, e.1.rs⟩, e.2))) a c ob Z) := by
  subst hm; exact turnC_ok h hk
theorem turn_len {es : List Iv} {k n : Nat} {z : Bool} (h : es.length = n) : es.modify k (fun e => (⟨e.1.op, if z then ((es.length : Nat) : Int) else (k : Int) + 1, if z then (k : Int) + 1 else ((es.length : Nat) : Int), e.1.arg, e.1.rs⟩, e.2)) = es.modify k (Iv.turnTo z n k) := by subst h; rfl
theorem mod_last {A : List Iv} {y : Iv} {f : Iv → Iv} {k : Nat} (hk : k = A.length) : (A ++ [y]).modify k f = A ++ [f y] := by
  subst hk
  induction A with
  | nil => simp [List.modify]
  | cons a A ih => rw [List.cons_append, List.length_cons, modify_cons_succ, ih]; rfl
theorem mul_succ_le {k m e : Nat} (h : k < m) : k * e + e ≤ m * e := by rw [← Nat.succ_mul]; exact Nat.mul_le_mul_right _ h
set_option maxHeartbeats 8000000 in
theorem repeat_step {n : Nat} (ih : ∀ {w : World} {cb : Nat} {es : List Iv} {a : Option Addr} {c : Nat} {ob : Option Nat} {Z : List Nat} {vs : List Value} {t : Rx} (hC : CdAt w cb es a c ob Z) (hx : RRx n (cb :: ob.toList) w vs t) (hg : Good t) (hl : es.length + t.esz ≤ 100000) (hZ : ∀ z, z ∈ Z → z < w.heap.size), Calls Try.prog 16 #[.pointer (some ⟨cb, 0, none⟩), .agg vs.toArray] w (Ret fun v w' => v = .tuple #[] ∧ Evo (cb :: ob.toList) w w' ∧ ∃ new, CdTo w w' cb ob (es ++ new) Z ∧ Codes t es.length (new.map (·.1)) ∧ new.length ≤ t.esz ∧ ∀ e, e ∈ new → Nice e.1)) {w : World} {cb : Nat} {es : List Iv} {a : Option Addr} {c : Nat} {ob : Option Nat} {Z : List Nat} {vs : List Value} {t : Rx} (hC : CdAt w cb es a c ob Z) (hx : RRx (n + 1) (cb :: ob.toList) w vs t) (hg : Good t) (hl : es.length + t.esz ≤ 100000) (hZ : ∀ z, z ∈ Z → z < w.heap.size) (h6 : t.kind = 6) : Calls Try.prog 34 #[.pointer (some ⟨cb, 0, none⟩), .agg vs.toArray] w (Ret fun v w' => v = .tuple #[] ∧ Evo (cb :: ob.toList) w w' ∧ ∃ new, CdTo w w' cb ob (es ++ new) Z ∧ Codes t es.length (new.map (·.1)) ∧ new.length ≤ t.esz ∧ ∀ e, e ∈ new → Nice e.1) := by
  have hXlt := hC.lt; have hx0 := hx; obtain ⟨m, ra, rc, ka, kc, hm, rfl, hrg, hk, bl1, bl2, bl3⟩ := hx.get
  obtain rfl : m = n := by omega
  obtain ⟨_, _, hke, hkc, e1⟩ := hk; cases hke; have hn := (nodeP_iff t).1 hg.node
  have hkl : t.kids.length = 1 := by have := hn.rep4 h6; omega
  have hj' : 0 < t.kids.length := by omega
  have hky : t.kids = [t.kids[0]] := single_of hkl; obtain ⟨bk, ok, vs1, rfl, hb1, hvl1, hc1, hrk⟩ := e1 0 hj'; obtain ⟨m1, ra1, rc1, ka1, kc1, rfl, rfl, -⟩ := id hrk.get; have he1 := eszs_one hkl; have hr1 := hn.rep1 h6; have hr2 := hn.rep2 h6; have hr3 := hn.rep3 h6
  have hrs : t.esz = (if t.max = -1 then t.min.toNat * t.kids[0].esz + t.kids[0].esz + 2 else t.min.toNat * t.kids[0].esz + (t.max - t.min).toNat * (t.kids[0].esz + 1)) := by
    rw [Rx.esz_eq, if_neg (by omega), if_neg (by omega), if_neg (by omega), if_pos h6, he1]
  refine calls_of_cw (N := 106) Try.func34 rfl rfl rfl ?_; refine cw_seq ?_; refine cw_region ?_; refine wl_boxA rfl rfl fun b3 w1 hB2 hs3 hw4 => ?_; have hsz_b3 := hs3; have hA5 := Apart.new (Lt.blk hC.blk) hs3; have hA6 := Apart.new (Lt.own hC.own) hs3; have hG7 := Ge.new (Evo.refl (cb :: ob.toList) w) hs3; have hG8 := Ge.new (Evo.refl [] w) hs3; have hE9 := (Evo.refl (cb :: ob.toList) w).then hw4; have hE10 := (Evo.refl [] w).then hw4; have hB11 := hw4.blk0 hC.blk; have hO12 := hC.own.evo0 hw4; refine wl_nil (nrm_then ?_); refine cw_seq ?_; refine cw_cut (α := RpG) (fun x => []) [(0, _), (3, _)] (fun x wr => Evo (cb :: ob.toList) w wr ∧ (RpI w wr cb es ob Z t.kids[0] b3 #[iv t.kind, .int .i32 t.r, .slice ra t.ranges.length rc, iv t.min, iv t.max, .bool t.lazy, iv t.cap, .string t.name, .slice (some ⟨bk, ok, none⟩) t.kids.length kc] t.min.toNat x)) ⟨rfl, rfl, trivial⟩ ?_ ?_
  ·skip
   refine cw_seq ?_; refine cw_region ?_; refine wl_val rfl (ex_fieldAddr rfl Try.fld25_3) ?_; refine wl_val rfl (ex_load1 rfl Try.agg3 (cell_nth hB2 rfl)) ?_; refine wl_m ?_; refine wl_nil (nrm_then ?_); refine cw_block ?_
   refine cw_loop (α := RpG) (⟨0, [], a, c, ob⟩) (fun x => [(12, .int .i64 (x.k : Nat))]) [(0, _), (3, _), (11, _)] (fun x wr => Evo (cb :: ob.toList) w wr ∧ (x.k ≤ t.min.toNat ∧ RpI w wr cb es ob Z t.kids[0] b3 #[iv t.kind, .int .i32 t.r, .slice ra t.ranges.length rc, iv t.min, iv t.max, .bool t.lazy, iv t.cap, .string t.name, .slice (some ⟨bk, ok, none⟩) t.kids.length kc] x.k x)) (fun x => t.min.toNat - x.k) ⟨rfl, trivial⟩ ⟨rfl, rfl, rfl, trivial⟩ ⟨hE9, ⟨Nat.zero_le _, by rw [List.append_nil]; exact hC.evo0 hE10, .inl rfl, RepC.nil _ _, Nat.zero_le _, (fun _ h => by cases h), hB2, hA5.symm, hA6.symm⟩⟩ ?_
   rintro ⟨k, new, pa, pc, po⟩ wr13 ⟨hV14, ⟨hk, hcd, hq, hpre, hlen, hnice, hb3, ha1, ha2⟩⟩; show CW _ _ _ _ [(12, .int .i64 (k : Nat)), (0, _), (3, _), (11, _)] _
   try dsimp only at hk
   try dsimp only at hcd
   try dsimp only at hq
   try dsimp only at hpre
   try dsimp only at hlen
   try dsimp only at hnice
   try dsimp only at hb3
   try dsimp only at ha1
   try dsimp only at ha2
   have hAJN : Apart (some cb) po := fun g h1 h2 => by cases h1; exact hcd.ne cb h2 rfl
   refine cw_seq ?_; refine cw_region ?_; refine wl_val rfl (ex_lss rfl rfl) ?_; refine wl_nil (nrm_then ?_); refine cw_seq ?_; refine cw_if rfl (fun hc13 => ?_) (fun hc13 => ?_)
   ·skip
    have hkm : k < t.min.toNat := by omega
    have hms := mul_succ_le (e := t.kids[0].esz) hkm
    have hsz : es.length + t.min.toNat * t.kids[0].esz ≤ 100000 := by split at hrs <;> omega
    refine cw_skip (nrm_then ?_); refine cw_seq ?_; refine cw_block ?_; refine cw_seq ?_; refine cw_region ?_; refine wl_m ?_; refine wl_val rfl (ex_nilCheck rfl) ?_; refine wl_val rfl (ex_load1 rfl Try.agg41 (cell_nth hcd.blk rfl)) ?_; refine wl_val rfl (ex_len_slice rfl Try.underlying41 rfl) ?_; refine wl_a ?_; refine wl_nil (nrm_then ?_); refine cw_seq ?_; refine cw_region ?_; refine wl_m ?_; refine wl_val rfl (ex_fieldAddr rfl Try.fld25_8) ?_; refine wl_val rfl (ex_load1 rfl Try.agg23 (cell_nth hb3 rfl)) ?_; refine wl_val rfl (ex_indexAddrZ (n := 0) rfl rfl rfl Try.elem23 (by omega)) ?_; refine wl_val rfl (ex_loadA rfl Try.agg25 Try.size25 (vs := [_, _, _, _, _, _, _, _, _]) rfl (hc1.evo hV14 hb1)) ?_; have hZw : ∀ z, z ∈ Z → z < (wr13).heap.size := fun z hz => Nat.lt_of_lt_of_le (hZ z hz) (hV14).size
    refine wl_call1 (vs := [_, _]) Try.goes16 rfl (ih (t := t.kids[0]) (hcd.evo0 (Evo.refl [] wr13)) (RRx.step hrk hV14 (mem_ob hq) hXlt) (hg.kid _ (List.getElem_mem hj')) (by simp only [List.length_append]; omega) hZw) rfl ?_
    rintro _ w15 ⟨-, hw16, kx1, hto1, hkx1, hkl1, hkn1⟩; have hlt_b3_1 := (Lt.blk hb3); have hev_1 := hV14; have hE17 := hV14.step hw16 (mem_ob hq); have hB18 := hw16.blk hb3 (nmem2 ha1 ha2); obtain ⟨pa_1, pc_1, po_1, hC_1, hp_1⟩ := hto1; have hq_1 := fr_trans hq hev_1 hp_1; have hA_b3_1 := ap_ob ha2 hlt_b3_1 hp_1
    have hAJN_1 : Apart (some cb) po_1 := fun g h1 h2 => by cases h1; exact hC_1.ne cb h2 rfl
    refine wl_nil (nrm_then ?_); refine cw_seq ?_; refine cw_region ?_; refine wl_m ?_; refine wl_val rfl (ex_nilCheck rfl) ?_; refine wl_val rfl (ex_load1 rfl Try.agg41 (cell_nth hC_1.blk rfl)) ?_; refine wl_val rfl (ex_len_slice rfl Try.underlying41 rfl) ?_; refine wl_m ?_; refine wl_val rfl (ex_eql rfl rfl) ?_; refine wl_nil (nrm_then ?_); refine cw_if rfl (fun hc29 => ?_) (fun hc29 => ?_)
    ·skip
     refine cw_exit (ex_past rfl (ex_then (ex_then (ex_here (nrm_same ?_))))); refine ⟨⟨k, new ++ kx1, pa_1, pc_1, po_1⟩, trivial, ⟨rfl, rfl, trivial⟩, hE17, ?_⟩
     obtain rfl : kx1 = [] := List.length_eq_zero_iff.1 (by simp only [List.length_append] at hc29; omega)
     have hx' : Codes t.kids[0] (es.length + (new.map (·.1)).length) [] := by rw [List.length_map]; have h := hkx1; rwa [List.length_append] at h
     have hs := hpre.stop hx' (t.min.toNat - k); rw [show k + (t.min.toNat - k) = t.min.toNat from by omega] at hs
     refine ⟨(hC_1.evo0 (Evo.refl [] w15)).cast (by simp), hq_1, by rw [List.append_nil]; exact hs, ?_, by rw [List.append_nil]; exact hnice, hB18, ha1, hA_b3_1⟩
     rw [List.append_nil]; show new.length ≤ _; omega
    ·skip
     refine cw_skip (nrm_block (nrm_then ?_)); refine cw_region ?_; refine wl_val rfl (ex_add_i64 rfl rfl (by omega) (by omega)) ?_; refine wl_m ?_; refine wl_nil (nrm_same ?_); refine ⟨⟨k + 1, new ++ kx1, pa_1, pc_1, po_1⟩, ?_, ⟨rfl, trivial⟩, ⟨rfl, rfl, rfl, trivial⟩, hE17, ?_⟩
     · (try dsimp only); omega
     ·skip
      try dsimp only
      have hx' : Codes t.kids[0] (es.length + (new.map (·.1)).length) (kx1.map (·.1)) := by rw [List.length_map]; have h := hkx1; rwa [List.length_append] at h
      refine ⟨by omega, (hC_1.evo0 (Evo.refl [] w15)).cast (List.append_assoc ..), hq_1, ?_, ?_, nice_app hnice hkn1, hB18, ha1, hA_b3_1⟩
      · rw [List.map_append]; exact hpre.snoc hx'
      · rw [List.length_append, Nat.succ_mul]; omega
   ·skip
    refine cw_exit (ex_then (ex_then (ex_here (nrm_same ?_)))); refine ⟨⟨k, new, pa, pc, po⟩, trivial, ⟨rfl, rfl, trivial⟩, hV14, ?_⟩
    obtain rfl : k = t.min.toNat := by omega
    exact ⟨hcd.evo0 (Evo.refl [] wr13), hq, hpre, hlen, hnice, hb3, ha1, ha2⟩
  ·skip
   rintro ⟨k, new, pa, pc, po⟩ w19 ⟨hV20, ⟨hcd, hq, hpre, hlen, hnice, hb3, ha1, ha2⟩⟩; refine nrm_then ?_; show CW _ _ _ _ [(0, _), (3, _)] _
   try dsimp only at hcd
   try dsimp only at hq
   try dsimp only at hpre
   try dsimp only at hlen
   try dsimp only at hnice
   try dsimp only at hb3
   try dsimp only at ha1
   try dsimp only at ha2
   have hAJN : Apart (some cb) po := fun g h1 h2 => by cases h1; exact hcd.ne cb h2 rfl
   refine cw_seq ?_; refine cw_seq ?_; refine cw_region ?_; refine wl_val rfl (ex_fieldAddr rfl Try.fld25_4) ?_; refine wl_val rfl (ex_load1 rfl Try.agg3 (cell_nth hb3 rfl)) ?_; refine wl_val rfl (ex_lss rfl rfl) ?_; refine wl_nil (nrm_then ?_); refine cw_if rfl (fun hc33 => ?_) (fun hc33 => ?_)
   ·skip
    have hmx : t.max = -1 := by omega
    rw [if_pos hmx] at hrs; have hsn : (es ++ new).length = es.length + new.length := List.length_append; refine cw_seq ?_; refine cw_region ?_; refine wl_m ?_; refine wl_val rfl (ex_build (vs := [(0, _)]) Try.build44 rfl (cells := [_, _, _, _, _]) rfl) ?_
    refine wl_call1 (vs := [_, _]) Try.goes31 rfl (put_ok (rs := []) (hcd.evo0 (Evo.refl [] w19)) rnil0 (by simp only [List.length_append]; omega)) rfl ?_
    rintro _ w21 ⟨rfl, hw22, hto1⟩; have hlt_b3_1 := (Lt.blk hb3); have hev_1 := hV20; have hE23 := hV20.step hw22 (mem_ob hq); have hB24 := hw22.blk hb3 (nmem2 ha1 ha2); obtain ⟨pa_1, pc_1, po_1, hC_1, hp_1⟩ := hto1; have hq_1 := fr_trans hq hev_1 hp_1; have hA_b3_1 := ap_ob ha2 hlt_b3_1 hp_1
    have hAJN_1 : Apart (some cb) po_1 := fun g h1 h2 => by cases h1; exact hC_1.ne cb h2 rfl
    refine wl_a ?_; refine wl_nil (nrm_then ?_); refine cw_seq ?_; refine cw_region ?_; refine wl_m ?_; refine wl_val rfl (ex_fieldAddr rfl Try.fld25_8) ?_; refine wl_val rfl (ex_load1 rfl Try.agg23 (cell_nth hB24 rfl)) ?_; refine wl_val rfl (ex_indexAddrZ (n := 0) rfl rfl rfl Try.elem23 (by omega)) ?_; refine wl_val rfl (ex_loadA rfl Try.agg25 Try.size25 (vs := [_, _, _, _, _, _, _, _, _]) rfl (hc1.evo hE23 hb1)) ?_; have hZw : ∀ z, z ∈ Z → z < (w21).heap.size := fun z hz => Nat.lt_of_lt_of_le (hZ z hz) (hE23).size
    refine wl_call1 (vs := [_, _]) Try.goes16 rfl (ih (t := t.kids[0]) (hC_1.evo0 (Evo.refl [] w21)) (RRx.step hrk hE23 (mem_ob hq_1) hXlt) (hg.kid _ (List.getElem_mem hj')) (by simp only [List.length_append, List.length_cons, List.length_nil]; omega) hZw) rfl ?_
    rintro _ w25 ⟨-, hw26, kx2, hto2, hkx2, hkl2, hkn2⟩; have hlt_b3_2 := (Lt.blk hB24); have hev_2 := hE23; have hE27 := hE23.step hw26 (mem_ob hq_1); have hB28 := hw26.blk hB24 (nmem2 ha1 hA_b3_1); obtain ⟨pa_2, pc_2, po_2, hC_2, hp_2⟩ := hto2; have hq_2 := fr_trans hq_1 hev_2 hp_2; have hA_b3_2 := ap_ob hA_b3_1 hlt_b3_2 hp_2
    have hAJN_2 : Apart (some cb) po_2 := fun g h1 h2 => by cases h1; exact hC_2.ne cb h2 rfl
    refine wl_nil (nrm_then ?_); refine cw_seq ?_; refine cw_region ?_; refine wl_m ?_; refine wl_val rfl (ex_build (vs := [(0, _)]) Try.build44 rfl (cells := [_, _, _, _, _]) rfl) ?_
    refine wl_call1 (vs := [_, _]) Try.goes31 rfl (put_ok (rs := []) (hC_2.evo0 (Evo.refl [] w25)) rnil0 (by simp only [List.length_append, List.length_cons, List.length_nil]; omega)) rfl ?_
    rintro _ w29 ⟨rfl, hw30, hto3⟩; have hlt_b3_3 := (Lt.blk hB28); have hev_3 := hE27; have hE31 := hE27.step hw30 (mem_ob hq_2); have hB32 := hw30.blk hB28 (nmem2 ha1 hA_b3_2); obtain ⟨pa_3, pc_3, po_3, hC_3, hp_3⟩ := hto3; have hq_3 := fr_trans hq_2 hev_3 hp_3; have hA_b3_3 := ap_ob hA_b3_2 hlt_b3_3 hp_3
    have hAJN_3 : Apart (some cb) po_3 := fun g h1 h2 => by cases h1; exact hC_3.ne cb h2 rfl
    refine wl_a ?_; refine wl_nil (nrm_then ?_); refine cw_seq ?_; refine cw_region ?_; refine wl_m ?_; refine wl_val rfl (ex_nilCheck rfl) ?_; refine wl_val rfl (ex_load1 rfl Try.agg41 (cell_nth hC_3.blk rfl)) ?_; refine wl_m ?_; refine wl_m ?_
    obtain ⟨gN, -, rfl, -⟩ := hC_3.own.cells (by simp only [List.length_append, List.length_cons, List.length_nil]; omega)
    have hjp : (es ++ new ++ [((⟨3, ((es ++ new).length : Nat) + 1, 0, 0, []⟩ : In), Value.slice none 0 0)] ++ kx2).length < (es ++ new ++ [((⟨3, ((es ++ new).length : Nat) + 1, 0, 0, []⟩ : In), Value.slice none 0 0)] ++ kx2 ++ [((⟨10, ((es ++ new ++ [((⟨3, ((es ++ new).length : Nat) + 1, 0, 0, []⟩ : In), Value.slice none 0 0)] ++ kx2).length : Nat) + 1, 0, 0, []⟩ : In), Value.slice none 0 0)]).length := by simp only [List.length_append, List.length_cons, List.length_nil]; omega
    refine wl_val rfl (ex_indexAddr (n := (es ++ new ++ [((⟨3, ((es ++ new).length : Nat) + 1, 0, 0, []⟩ : In), Value.slice none 0 0)] ++ kx2).length) rfl rfl Try.elem41 hjp) ?_; refine wl_val rfl (ex_fieldAddr rfl Try.fld44_1) ?_; have hcd9 := (Evo.refl [] w29)
    obtain ⟨g42, cur33, hg34, hx35, hcu36, hcs37, -⟩ := hC_3.own.at (by omega)
    cases hx35; refine wl_store1L rfl rfl (rfl) Try.size3 hcu36 (hC_3.own.inb hcs37 (k := (es ++ new ++ [((⟨3, ((es ++ new).length : Nat) + 1, 0, 0, []⟩ : In), Value.slice none 0 0)] ++ kx2).length) (j := 1) (by omega) (by omega) (by omega)) fun w38 hB39 hw40 => ?_; replace hw40 := evo_ob hg34 hw40; have hO41 := hC_3.own.set' hg34 hcu36 hB39; have hE43 := hE31.step hw40 (fun y hy => mem_ob hq_3 y (List.mem_cons_of_mem _ hy)); have hB45 := hw40.blk hB32 hA_b3_3.nmem; have hB46 := hw40.blk hC_3.blk hAJN_3.nmem; rw [show 0 + (es ++ new ++ [((⟨3, ((es ++ new).length : Nat) + 1, 0, 0, []⟩ : In), Value.slice none 0 0)] ++ kx2).length * 5 + 1 = (es ++ new ++ [((⟨3, ((es ++ new).length : Nat) + 1, 0, 0, []⟩ : In), Value.slice none 0 0)] ++ kx2).length * 5 + 1 from by omega, flat_setOut hjp] at hO41; have hC_9 := hC_3.evo0 hcd9; have hC_8 := hC_9.mod hw40 hO41 (fun _ => ⟨rfl, rfl⟩); refine wl_nil (nrm_then ?_); refine cw_seq ?_; refine cw_any (fun w0 w' => Evo po_3.toList w0 w') (by kernel_rfl) (fun w47 hw48 => ?_); have hE49 := hE43.then hw48; have hE50 := (Evo.refl [] w38).then hw48; have hB51 := hw48.blk0 hB45; have hB52 := hw48.blk0 hB46; have hO53 := hO41.evo0 hw48; refine ae_take 0 rfl (by kernel_rfl) (by kernel_rfl) (by kernel_rfl) rfl (fun _ hS => ex_move rfl) (Evo.refl po_3.toList w47) ?_; refine ae_take 1 rfl (by kernel_rfl) (by kernel_rfl) (by kernel_rfl) rfl (fun _ hS => ex_nilCheck rfl) (Evo.refl po_3.toList w47) ?_; refine ae_take 2 rfl (by kernel_rfl) (by kernel_rfl) (by kernel_rfl) rfl (fun _ hS => ex_load1 rfl Try.agg41 (cell_nth (hS.blk hB52 (hAJN_3.nmem)) rfl)) (Evo.refl po_3.toList w47) ?_; refine ae_take 3 rfl (by kernel_rfl) (by kernel_rfl) (by kernel_rfl) rfl (fun _ hS => ex_move rfl) (Evo.refl po_3.toList w47) ?_
    refine ae_take 4 rfl (by kernel_rfl) (by kernel_rfl) (by kernel_rfl) rfl (fun _ hS => ex_move rfl) (Evo.refl po_3.toList w47) ?_; refine ae_take 5 rfl (by kernel_rfl) (by kernel_rfl) (by kernel_rfl) rfl (fun _ hS => ex_add_i64 rfl rfl (by omega) (by omega)) (Evo.refl po_3.toList w47) ?_; refine ae_take 6 rfl (by kernel_rfl) (by kernel_rfl) (by kernel_rfl) rfl (fun _ hS => ex_move rfl) (Evo.refl po_3.toList w47) ?_; refine ae_take 7 rfl (by kernel_rfl) (by kernel_rfl) (by kernel_rfl) rfl (fun _ hS => ex_nilCheck rfl) (Evo.refl po_3.toList w47) ?_; refine ae_take 8 rfl (by kernel_rfl) (by kernel_rfl) (by kernel_rfl) rfl (fun _ hS => ex_load1 rfl Try.agg41 (cell_nth (hS.blk hB52 (hAJN_3.nmem)) rfl)) (Evo.refl po_3.toList w47) ?_; refine ae_take 9 rfl (by kernel_rfl) (by kernel_rfl) (by kernel_rfl) rfl (fun _ hS => ex_len_slice rfl Try.underlying41 rfl) (Evo.refl po_3.toList w47) ?_; refine ae_take 10 rfl (by kernel_rfl) (by kernel_rfl) (by kernel_rfl) rfl (fun _ hS => ex_fieldAddr rfl Try.fld25_5) (Evo.refl po_3.toList w47) ?_; refine ae_take 11 rfl (by kernel_rfl) (by kernel_rfl) (by kernel_rfl) rfl (fun _ hS => ex_load1 rfl Try.agg4 (cell_nth (hS.blk hB51 (hA_b3_3.nmem)) rfl)) (Evo.refl po_3.toList w47) ?_; refine ae_loud [12] (by kernel_rfl) rfl ⟨?_, trivial⟩; refine a_step rfl ?_
    refine wl_call1 (vs := [_, _, _, _, _]) Try.goes55 rfl (turnM_ok (k := (es ++ new).length) (hC_8.evo0 hE50) (by rw [List.length_modify]) (by rw [List.length_modify]; simp only [List.length_append, List.length_cons, List.length_nil]; omega)) rfl ?_
    rintro _ w54 ⟨rfl, hw55, hT_4⟩; have hE56 := hE49.step hw55 (fun y hy => mem_ob hq_3 y (List.mem_cons_of_mem _ hy)); have hE57 := (Evo.refl po_3.toList w47).step hw55 (fun y hy => .inl hy); have hB58 := hw55.blk hB51 (hA_b3_3.nmem); have hB59 := hw55.blk hB52 (hAJN_3.nmem); refine wl_nil (ae_next (.inl hE57) ?_); refine ae_done (by kernel_rfl) (nrm_then ?_); refine cw_ret (ret_then (body_ret0 rfl ?_))
    have hx' : Codes t.kids[0] (es.length + new.length + 1) (kx2.map (·.1)) := by have h := hkx2; rwa [List.length_append, List.length_append] at h
    have hT := hT_4.evo0 (Evo.refl [] w54); rw [mod_last rfl, mod_mid rfl] at hT; refine ⟨rfl, hE56, new ++ ([(In.sp t.lazy (es.length + new.length + 1) (es.length + new.length + 1 + kx2.length + 1), .slice none 0 0)] ++ (kx2 ++ [(⟨10, ((es.length + new.length : Nat) : Int), 0, 0, []⟩, .slice none 0 0)])), ⟨_, _, _, hT.cast ?_, hq_3⟩, ?_, ?_, ?_⟩
    · rw [List.append_assoc]; refine congrArg (es ++ ·) (congrArg (new ++ ·) ?_)
      cases t.lazy <;> (simp only [Iv.setOut, In.sp, List.length_append, List.length_cons, List.length_nil, List.singleton_append, Bool.false_eq_true, if_false, if_true]; push_cast; simp [Int.add_assoc, Nat.add_assoc])
    · rw [List.map_append, List.map_append, List.map_append]
      have h := codes_loop (a := es.length) (k := new.map (·.1)) (kx := kx2.map (·.1)) h6 hky hmx hpre (by rw [List.length_map]; exact hx')
      rw [List.length_map, List.length_map] at h; exact h
    · simp only [List.length_append, List.length_cons, List.length_nil]; omega
    · exact nice_app hnice (nice_app (nice_one (nice_sp _ _ _)) (nice_app hkn2 (nice_one ⟨by simp, Int.natCast_nonneg _, Int.le_refl _, Nat.zero_le _⟩)))
   ·skip
    have hmx : ¬ t.max = -1 := by omega
    rw [if_neg hmx] at hrs; have hpre0 := hpre; obtain ⟨r, hr⟩ : ∃ r, r = (t.max - t.min).toNat := ⟨_, rfl⟩; rw [← hr] at hrs; refine cw_skip (nrm_then ?_); refine cw_seq ?_; refine cw_region ?_; refine wl_a ?_; refine wl_nil (nrm_then ?_); refine cw_seq ?_; refine cw_seq ?_; refine cw_region ?_; refine wl_val rfl (ex_fieldAddr rfl Try.fld25_4) ?_; refine wl_val rfl (ex_load1 rfl Try.agg3 (cell_nth hb3 rfl)) ?_; refine wl_val rfl (ex_fieldAddr rfl Try.fld25_3) ?_; refine wl_val rfl (ex_load1 rfl Try.agg3 (cell_nth hb3 rfl)) ?_; refine wl_val rfl (ex_sub_i64 rfl rfl (by omega) (by omega)) ?_; refine wl_m ?_; refine wl_nil (nrm_then ?_); refine cw_block ?_
    refine cw_loop (α := RqG) (⟨0, [], pa, pc, po, [], none, 0, none⟩) (fun x => [(71, .int .i64 (x.j : Nat)), (7, .slice x.ja x.j x.jc)]) [(0, _), (3, _), (70, _)] (fun x wr => Evo (cb :: ob.toList) w wr ∧ (RqI w wr cb es new ob Z t.lazy t.kids[0] b3 #[iv t.kind, .int .i32 t.r, .slice ra t.ranges.length rc, iv t.min, iv t.max, .bool t.lazy, iv t.cap, .string t.name, .slice (some ⟨bk, ok, none⟩) t.kids.length kc] r x)) (fun x => r - x.j) ⟨rfl, rfl, trivial⟩ ⟨rfl, rfl, rfl, trivial⟩ ⟨hV20, ⟨Nat.zero_le _, by rw [List.append_nil]; exact hcd.evo0 (Evo.refl [] w19), hq, OptPre.nil _ _ _, Nat.zero_le _, rfl, (fun _ h => by cases h), OwnS.nil _ _ _, Apart.nil _, Apart.nil _, Ge.nil _, hb3, ha1, ha2, Apart.nil _⟩⟩ ?_
    rintro ⟨j, new2, pa, pc, po, js, ja, jc, jo⟩ wr60 ⟨hV61, ⟨hj, hcd, hq, hpre, hlen2, hjl, hnice2, hjo, hap1, hap2, hge, hb3, ha1, ha2, ha3⟩⟩; show CW _ _ _ _ [(71, .int .i64 (j : Nat)), (7, .slice ja j jc), (0, _), (3, _), (70, _)] _
    try dsimp only at hj
    try dsimp only at hcd
    try dsimp only at hq
    try dsimp only at hpre
    try dsimp only at hlen2
    try dsimp only at hjl
    try dsimp only at hnice2
    try dsimp only at hjo
    try dsimp only at hap1
    try dsimp only at hap2
    try dsimp only at hge
    try dsimp only at hb3
    try dsimp only at ha1
    try dsimp only at ha2
    try dsimp only at ha3
    have hAJN : Apart (some cb) po := fun g h1 h2 => by cases h1; exact hcd.ne cb h2 rfl
    refine cw_seq ?_; refine cw_region ?_; refine wl_val rfl (ex_lss rfl rfl) ?_; refine wl_nil (nrm_then ?_); refine cw_seq ?_; refine cw_if rfl (fun hc72 => ?_) (fun hc72 => ?_)
    ·skip
     have hjr : j < r := by omega
     have hms := mul_succ_le (e := t.kids[0].esz + 1) hjr; refine cw_skip (nrm_then ?_); refine cw_seq ?_; refine cw_block ?_; refine cw_seq ?_; refine cw_region ?_; refine wl_m ?_; refine wl_m ?_; refine wl_val rfl (ex_build (vs := [(0, _)]) Try.build44 rfl (cells := [_, _, _, _, _]) rfl) ?_
     refine wl_call1 (vs := [_, _]) Try.goes31 rfl (put_ok (rs := []) (hcd.evo0 (Evo.refl [] wr60)) rnil0 (by simp only [List.length_append]; omega)) rfl ?_
     rintro _ w62 ⟨rfl, hw63, hto5⟩; have hlt_b3_5 := (Lt.blk hb3); have hlt_JS_5 := (Lt.own hjo); have hev_5 := hV61; have hE64 := hV61.step hw63 (mem_ob hq); have hB65 := hw63.blk hb3 (nmem2 ha1 ha2); have hB66 := hjo.evo hw63 (nmem2o hap1.symm hap2.symm); obtain ⟨pa_5, pc_5, po_5, hC_5, hp_5⟩ := hto5; have hq_5 := fr_trans hq hev_5 hp_5; have hA_b3_5 := ap_ob ha2 hlt_b3_5 hp_5; have hA_JS_5 := ap_ob hap2.symm hlt_JS_5 hp_5
     have hAJN_5 : Apart (some cb) po_5 := fun g h1 h2 => by cases h1; exact hC_5.ne cb h2 rfl
     refine wl_bslice (vs := [_]) rfl Try.slice46 rfl rfl rfl rfl fun b67 w68 hO69 hs70 hw71 => ?_; have hA72 := Apart.new (Lt.blk hB65) hs70; have hA73 := Apart.new (Lt.own hB66) hs70; have hA74 := Apart.new (Lt.blk hC_5.blk) hs70; have hA75 := Apart.new (Lt.own hC_5.own) hs70; have hG76 := Ge.new hE64 hs70; have hG77 := Ge.new (Evo.refl jo.toList w62) hs70; have hE78 := hE64.then hw71; have hE79 := (Evo.refl jo.toList w62).then hw71; have hB80 := hw71.blk0 hB65; have hO81 := hB66.evo0 hw71; have hB82 := hw71.blk0 hC_5.blk; have hO83 := hC_5.own.evo0 hw71; have hcd4 := hE79; refine wl_append rfl rfl rfl rfl Try.app46_46 hO81 (Src.ofOwn hO69 ⟨by first | rfl | assumption, trivial⟩) (by omega) fun ja2 jc2 w86 jo2 hO2 hw89 hob90 => ?_; have hA91 := ha3.app (Lt.blk hB80) hob90; have hA92 := hap1.app (Lt.blk hB82) hob90; have hA93 := hA_JS_5.symm.app (Lt.own hO83) hob90; have hA94 := hA73.symm.app (Lt.own hO69) hob90; have hG95 := hge.app hE78 hob90; have hE96 := hE78.step hw89 hge.mem; have hE97 := hE79.step hw89 (fun y hy => .inl hy); have hB98 := hw89.blk hB80 ha3.nmem; have hB99 := hw89.blk hB82 hap1.nmem; have hO100 := hO83.evo hw89 hA_JS_5.symm.own; have hO101 := hO69.evo hw89 hA73.symm.own; have hjo2 := hob90; have hC4 := hC_5.evo hE97 hap1.nmem hA_JS_5.symm.own (fun y hy => List.mem_append_left _ hy) (mem_joZ hcd4 hjo2); refine wl_a ?_; refine wl_nil (nrm_then ?_); refine cw_region ?_; refine wl_m ?_; refine wl_val rfl (ex_fieldAddr rfl Try.fld25_8) ?_; refine wl_val rfl (ex_load1 rfl Try.agg23 (cell_nth hB98 rfl)) ?_; refine wl_val rfl (ex_indexAddrZ (n := 0) rfl rfl rfl Try.elem23 (by omega)) ?_; refine wl_val rfl (ex_loadA rfl Try.agg25 Try.size25 (vs := [_, _, _, _, _, _, _, _, _]) rfl (hc1.evo hE96 hb1)) ?_
     refine wl_call1 (vs := [_, _]) Try.goes16 rfl (ih (t := t.kids[0]) (hC4.evo0 (Evo.refl [] w86)) (RRx.step hrk hE96 (mem_ob hq_5) hXlt) (hg.kid _ (List.getElem_mem hj')) (by simp only [List.length_append, List.length_cons, List.length_nil]; omega) (ltZ hZ hE96 (Lt.own hO2))) rfl ?_
     rintro _ w102 ⟨-, hw103, kx6, hto6, hkx6, hkl6, hkn6⟩; have hlt_b3_6 := (Lt.blk hB98); have hlt_jo2_6 := (Lt.own hO2); have hev_6 := hE96; have hE104 := hE96.step hw103 (mem_ob hq_5); have hB105 := hw103.blk hB98 (nmem2 ha1 hA_b3_5); have hB106 := hO2.evo hw103 (nmem2o hA92.symm hA93.symm); obtain ⟨pa_6, pc_6, po_6, hC_6, hp_6⟩ := hto6; have hq_6 := fr_trans hq_5 hev_6 hp_6; have hA_b3_6 := ap_ob hA_b3_5 hlt_b3_6 hp_6; have hA_jo2_6 := ap_ob hA93.symm hlt_jo2_6 hp_6
     have hAJN_6 : Apart (some cb) po_6 := fun g h1 h2 => by cases h1; exact hC_6.ne cb h2 rfl
     refine wl_nil (nrm_block (nrm_then ?_)); refine cw_region ?_; refine wl_val rfl (ex_add_i64 rfl rfl (by omega) (by omega)) ?_; refine wl_m ?_; refine wl_nil (nrm_same ?_); refine ⟨⟨j + 1, new2 ++ ([(⟨3, ((es ++ (new ++ new2)).length : Nat) + 1, 0, 0, []⟩, .slice none 0 0)] ++ kx6), pa_6, pc_6, po_6, js ++ [(es ++ (new ++ new2)).length], ja2, jc2, jo2⟩, ?_, ⟨rfl, rfl, trivial⟩, ⟨rfl, rfl, rfl, trivial⟩, hE104, ?_⟩
     · (try dsimp only); omega
     ·skip
      try dsimp only
      have hm : (es ++ (new ++ new2)).length = es.length + new.length + (new2.map (·.1)).length := by simp only [List.length_append, List.length_map]; omega
      have hx' : Codes t.kids[0] ((es ++ (new ++ new2)).length + 1) (kx6.map (·.1)) := by have h := hkx6; rwa [List.length_append] at h
      have hs := hpre.snoc (o := ((es ++ (new ++ new2)).length : Nat) + 1) (al := 0) hm hx'
      refine ⟨by show j + 1 ≤ r; omega, hC_6.cast (by simp), hq_6, ?_, ?_, ?_, nice_app hnice2 (nice_app (nice_one (nice_split _ _ (by omega) (Int.le_refl _))) hkn6), ?_, hA92, hA_jo2_6.symm, hG95, hB105, ha1, hA_b3_6, hA91⟩
      · show OptPre _ _ (j + 1) _ _ _; rw [List.map_append, List.map_append]; exact hs
      · show _ ≤ (j + 1) * (t.kids[0].esz + 1); rw [Nat.succ_mul]; simp only [List.length_append, List.length_cons, List.length_nil]; omega
      · show (js ++ [_]).length = j + 1; rw [List.length_append, hjl]; rfl
      · have h : OwnS _ 3 1 ja2 (j + 1) jc2 (js.map (fun p => iv (p : Nat)) ++ [iv ((es ++ (new ++ new2)).length : Nat)]) jo2 := hB106
        show OwnS _ 3 1 ja2 (j + 1) jc2 ((js ++ [_]).map _) jo2; rw [List.map_append]; exact h
    ·skip
     have hjr : j = r := by omega
     subst hjr; refine cw_exit (ex_then (ex_then (ex_here (nrm_then ?_)))); refine cw_seq ?_; refine cw_region ?_; refine wl_m ?_; refine wl_val rfl (ex_len_slice rfl Try.underlying46 rfl) ?_; refine wl_m ?_; refine wl_nil (nrm_then ?_); refine cw_block ?_
     refine cw_loop (α := Nat) (0) (fun i => [(88, .int .i64 (i : Nat))]) [(0, _), (3, _), (86, _), (87, _)] (fun i wr => Evo (cb :: ob.toList) w wr ∧ (i ≤ js.length ∧ CdAt wr cb (patch (Iv.turnTo t.lazy (es.length + new.length + new2.length)) (js.take i) (es ++ (new ++ new2))) pa pc po (jo.toList ++ Z) ∧ OwnS wr 3 1 ja j jc (js.map fun p => iv (p : Nat)) jo ∧ wr.heap[b3]? = some (.cells #[iv t.kind, .int .i32 t.r, .slice ra t.ranges.length rc, iv t.min, iv t.max, .bool t.lazy, iv t.cap, .string t.name, .slice (some ⟨bk, ok, none⟩) t.kids.length kc] 25 (0, 0)))) (fun i => js.length - i) ⟨rfl, trivial⟩ ⟨rfl, rfl, rfl, rfl, trivial⟩ ⟨hV61, ⟨Nat.zero_le _, by rw [List.take_zero]; exact hcd.evo0 (Evo.refl [] wr60), hjo, hb3⟩⟩ ?_
     rintro i wr107 ⟨hV108, ⟨hi, hcd2, hjo2, hb32⟩⟩; show CW _ _ _ _ [(88, _), (0, _), (3, _), (86, _), (87, _)] _
     have hpl : (patch (Iv.turnTo t.lazy (es.length + new.length + new2.length)) (js.take i) (es ++ (new ++ new2))).length = es.length + new.length + new2.length := by rw [patch_length]; simp only [List.length_append]; omega
     refine cw_seq ?_; refine cw_region ?_; refine wl_val rfl (ex_lss rfl rfl) ?_; refine wl_nil (nrm_then ?_); refine cw_seq ?_; refine cw_if rfl (fun hc89 => ?_) (fun hc89 => ?_)
     ·skip
      have hi' : i < js.length := by omega
      have hat := hpre.at' js[i] (List.getElem_mem hi')
      rw [List.length_map] at hat; obtain ⟨gJ, haJ, hcJ⟩ := own_ints hjo2 (by omega); refine cw_skip (nrm_then ?_); refine cw_seq ?_; refine cw_block ?_; refine cw_seq ?_; refine cw_region ?_
      refine wl_val rfl (ex_indexAddr (n := i) (by rw [haJ]; rfl) rfl Try.elem46 (by omega)) ?_
      refine wl_val rfl (ex_load1 rfl Try.agg3 (hcJ i hi')) ?_; refine wl_a ?_; refine wl_nil (nrm_then ?_); refine cw_any (fun w0 w' => Evo po.toList w0 w') (by kernel_rfl) (fun w109 hw110 => ?_); have hE111 := hV108.then hw110; have hE112 := (Evo.refl [] wr107).then hw110; have hB113 := hw110.blk0 hcd2.blk; have hO114 := hcd2.own.evo0 hw110; have hB115 := hw110.blk0 hb32; have hO116 := hjo2.evo0 hw110; refine ae_take 0 rfl (by kernel_rfl) (by kernel_rfl) (by kernel_rfl) rfl (fun _ hS => ex_move rfl) (Evo.refl po.toList w109) ?_; refine ae_take 1 rfl (by kernel_rfl) (by kernel_rfl) (by kernel_rfl) rfl (fun _ hS => ex_nilCheck rfl) (Evo.refl po.toList w109) ?_; refine ae_take 2 rfl (by kernel_rfl) (by kernel_rfl) (by kernel_rfl) rfl (fun _ hS => ex_load1 rfl Try.agg41 (cell_nth (hS.blk hB113 (hAJN.nmem)) rfl)) (Evo.refl po.toList w109) ?_; refine ae_take 3 rfl (by kernel_rfl) (by kernel_rfl) (by kernel_rfl) rfl (fun _ hS => ex_move rfl) (Evo.refl po.toList w109) ?_; refine ae_take 4 rfl (by kernel_rfl) (by kernel_rfl) (by kernel_rfl) rfl (fun _ hS => ex_move rfl) (Evo.refl po.toList w109) ?_; refine ae_take 5 rfl (by kernel_rfl) (by kernel_rfl) (by kernel_rfl) rfl (fun _ hS => ex_add_i64 rfl rfl (by omega) (by omega)) (Evo.refl po.toList w109) ?_; refine ae_take 6 rfl (by kernel_rfl) (by kernel_rfl) (by kernel_rfl) rfl (fun _ hS => ex_move rfl) (Evo.refl po.toList w109) ?_; refine ae_take 7 rfl (by kernel_rfl) (by kernel_rfl) (by kernel_rfl) rfl (fun _ hS => ex_nilCheck rfl) (Evo.refl po.toList w109) ?_; refine ae_take 8 rfl (by kernel_rfl) (by kernel_rfl) (by kernel_rfl) rfl (fun _ hS => ex_load1 rfl Try.agg41 (cell_nth (hS.blk hB113 (hAJN.nmem)) rfl)) (Evo.refl po.toList w109) ?_
      refine ae_take 9 rfl (by kernel_rfl) (by kernel_rfl) (by kernel_rfl) rfl (fun _ hS => ex_len_slice rfl Try.underlying41 rfl) (Evo.refl po.toList w109) ?_; refine ae_take 10 rfl (by kernel_rfl) (by kernel_rfl) (by kernel_rfl) rfl (fun _ hS => ex_fieldAddr rfl Try.fld25_5) (Evo.refl po.toList w109) ?_; refine ae_take 11 rfl (by kernel_rfl) (by kernel_rfl) (by kernel_rfl) rfl (fun _ hS => ex_load1 rfl Try.agg4 (cell_nth (hS.blk hB115 (ha2.nmem)) rfl)) (Evo.refl po.toList w109) ?_; refine ae_loud [12] (by kernel_rfl) rfl ⟨?_, trivial⟩; refine a_step rfl ?_
      refine wl_call1 (vs := [_, _, _, _, _]) Try.goes55 rfl (turnM_ok (k := js[i]) (hcd2.evo0 hE112) (rfl) (by rw [hpl]; omega)) rfl ?_
      rintro _ w117 ⟨rfl, hw118, hT_7⟩; have hE119 := hE111.step hw118 (fun y hy => mem_ob hq y (List.mem_cons_of_mem _ hy)); have hE120 := (Evo.refl po.toList w109).step hw118 (fun y hy => .inl hy); have hB121 := hw118.blk hB113 (hAJN.nmem); have hB122 := hw118.blk hB115 (ha2.nmem); have hB123 := hO116.evo hw118 (hap2.symm.own); refine wl_nil (ae_next (.inl hE120) ?_); refine ae_done (by kernel_rfl) (nrm_block (nrm_then ?_)); refine cw_region ?_; refine wl_val rfl (ex_add_i64 rfl rfl (by omega) (by omega)) ?_; refine wl_m ?_; refine wl_nil (nrm_same ?_); refine ⟨i + 1, ?_, ⟨rfl, trivial⟩, ⟨rfl, rfl, rfl, rfl, trivial⟩, hE119, ?_⟩
      · omega
      ·skip
       refine ⟨by omega, ?_, hB123, hB122⟩; rw [List.take_add_one, List.getElem?_eq_getElem hi']; have h := hT_7.evo0 (Evo.refl [] w117); rw [turn_len hpl] at h; rw [show (js.take i ++ (some js[i]).toList) = js.take i ++ [js[i]] from rfl, patch_snoc]; exact h
     ·skip
      refine cw_exit (ex_then (ex_then (ex_here (body_end0 rfl ?_)))); have hiE : js.take i = js := List.take_of_length_le (by omega); rw [hiE] at hcd2
      have hatJ : ∀ p, p ∈ js → (es ++ new).length ≤ p := fun p hp => by have := (hpre.at' p hp).1; rw [List.length_append]; exact this
      rw [← List.append_assoc] at hcd2; obtain ⟨new', hn1, hn2, hn3⟩ := patch_tail (f := Iv.turnTo t.lazy (es.length + new.length + new2.length)) (fun p e => rfl) (new := new2) hatJ; rw [hn1, List.append_assoc] at hcd2; rw [List.length_append] at hn3
      refine ⟨rfl, hV108, new ++ new', ⟨_, _, _, hcd2.evo (Evo.refl [] _) (by simp) (by simp) (by simp) (fun z hz => .inl (List.mem_append_right _ hz)), hq⟩, ?_, ?_, nice_app hnice (nice_patch hnice2 hn2 hn3 (fun p e h => ⟨h.1, by show (0 : Int) ≤ (if t.lazy then _ else _); split <;> omega, by show (0 : Int) ≤ (if t.lazy then _ else _); split <;> omega, h.2.2.2⟩))⟩
      · rw [List.map_append]
        refine codes_opt (a := es.length) (k := new.map (·.1)) (kp := new'.map (·.1)) (kx := new2.map (·.1)) (js := js) (r := j) h6 hky hmx hpre0 hr (by rw [List.length_map]; exact hpre) (by rw [List.length_map, List.length_map]; exact hn2) (fun l hl => ?_)
        rw [List.length_map] at hl ⊢; rw [List.length_map]; exact pat_of (g := turnTo t.lazy (es.length + new.length + new2.length)) (fun _ _ => rfl) hn2 hn3 hl
      · simp only [List.length_append]; omega
end Go.Proofs.Ytgboffefbpligaa
namespace Go.Proofs.Ytgboffefbpligaa
open Go.Proofs
open Go.W Go.RowKit
attribute [local irreducible] Decidable.decide
set_option linter.unusedSimpArgs false
set_option linter.unusedVariables false
structure CAt (w : World) (jb : Nat) (nodes caps : Nat) (ns : List ByteArray) (a : Option Addr) (c : Nat) (ob : Option Nat) : Prop where
  blk : w.heap[jb]? = some (.cells #[iv (nodes : Nat), iv (caps : Nat), .slice a ns.length c] 56 (0, 0))
  own : OwnS w 9 1 a ns.length c (ns.map sv) ob
  ne : ∀ g, ob = some g → g ≠ jb
end Go.Proofs.Ytgboffefbpligaa
namespace Go.Proofs.Ytgboffefbpligaa
open Go.Proofs
open Go.W Go.RowKit
attribute [local irreducible] Decidable.decide
set_option linter.unusedSimpArgs false
set_option linter.unusedVariables false
theorem Brk.int (a k b : Int) : ∃ z, z = b + (if Brk a k then 1 else 0) := ⟨_, rfl⟩
theorem CAt.new {w : World} {jb : Nat} (h : w.heap[jb]? = some (.cells #[iv 0, iv 0, .slice none 0 0] 56 (0, 0))) : CAt w jb 0 0 [] none 0 none := ⟨h, OwnS.nil _ _ _, fun g hg => by cases hg⟩
end Go.Proofs.Ytgboffefbpligaa
namespace Go.Proofs.Ytgboffefbpligaa
open Go.Proofs
open Go.W Go.RowKit
attribute [local irreducible] Decidable.decide
set_option linter.unusedSimpArgs false
set_option linter.unusedVariables false
theorem Try.goes29 : Goes Try.prog 29 := ⟨_, Try.func29, by kernel_rfl, by kernel_rfl⟩
theorem Try.goes30 : Goes Try.prog 30 := ⟨_, Try.func30, by kernel_rfl, by kernel_rfl⟩
theorem cap_two {E s e : Int} (he : e = E + 2) (hs : s = min E 10001) : min (s + 2) 10001 = min e 10001 := by subst he hs; omega
theorem ite_min (a b : Int) : (if b < a then b else a) = min a b := by omega
theorem step_cap {a b : Nat} {s r : Int} (hs : s = min (a : Int) 10001) (hr : r = min (b : Int) 10001) : min (s + r) 10001 = min (((a + b : Nat) : Int)) 10001 := by subst hs hr; omega
set_option maxHeartbeats 4000000 in
theorem size_step {n : Nat} (ih : ∀ {X : List Nat} {w : World} {vs : List Value} {t : Rx} (hx : RRx n X w vs t) (hg : Good t), Calls Try.prog 30 #[.agg vs.toArray] w (Ret fun v w' => v = .int .i64 (min (t.esz : Int) 10001) ∧ Evo [] w w')) {X : List Nat} {w : World} {vs : List Value} {t : Rx} (hx : RRx (n + 1) X w vs t) (hg : Good t) : Calls Try.prog 30 #[.agg vs.toArray] w (Ret fun v w' => v = .int .i64 (min (t.esz : Int) 10001) ∧ Evo [] w w') := by
  have hx0 := hx; obtain ⟨m, ra, rc, ka, kc, hm, rfl, hrg, hk, bl1, bl2, bl3⟩ := hx.get
  obtain rfl : m = n := by omega
  obtain ⟨_, _, hke, hkc, e1⟩ := hk; cases hke; have hn := (nodeP_iff t).1 hg.node; refine calls_of_cw (N := 64) Try.func30 rfl rfl rfl ?_; refine cw_seq ?_; refine cw_region ?_; refine wl_boxA rfl rfl fun b1 w2 hB3 hs4 hw5 => ?_; have hG6 := Ge.new (Evo.refl [] w) hs4; have hE7 := (Evo.refl [] w).then hw5; refine wl_a ?_; refine wl_nil (nrm_then ?_); refine cw_seq ?_; refine cw_region ?_; refine wl_a ?_; refine wl_nil (nrm_then ?_); refine cw_seq ?_; refine cw_seq ?_; refine cw_region ?_; refine wl_val rfl (ex_fieldAddr rfl Try.fld25_8) ?_; refine wl_val rfl (ex_load1 rfl Try.agg23 (cell_nth hB3 rfl)) ?_; refine wl_val rfl (ex_len_slice rfl Try.underlying23 rfl) ?_; refine wl_m ?_; refine wl_nil (nrm_then ?_); refine cw_block ?_
  refine cw_loop (α := Nat × Int) ((0, 0)) (fun x => [(3, .int .i64 x.2), (9, .int .i64 (x.1 : Nat))]) [(1, _), (2, _), (7, _), (8, _)] (fun x wr => Evo [] w2 wr ∧ (x.1 ≤ t.kids.length ∧ x.2 = min (eszs (t.kids.take x.1) : Int) 10001)) (fun x => t.kids.length - x.1) ⟨rfl, rfl, trivial⟩ ⟨rfl, rfl, rfl, rfl, trivial⟩ ⟨Evo.refl _ _, ⟨Nat.zero_le _, by simp only [List.take_zero]; rfl⟩⟩ ?_
  rintro ⟨j, s⟩ wr8 ⟨hV9, ⟨hj, hs⟩⟩; show CW _ _ _ _ [(3, .int .i64 s), (9, .int .i64 (j : Nat)), (1, _), (2, _), (7, _), (8, _)] _
  try dsimp only at hj
  try dsimp only at hs
  have hE10 := hE7.then hV9; have hB11 := hV9.blk0 hB3; refine cw_seq ?_; refine cw_region ?_; refine wl_val rfl (ex_lss rfl rfl) ?_; refine wl_nil (nrm_then ?_); refine cw_seq ?_; refine cw_if rfl (fun hc10 => ?_) (fun hc10 => ?_)
  ·skip
   have hj' : j < t.kids.length := by omega
   obtain ⟨b1, o1, vs1, ha1, hb1, hvl1, hc1, hrk⟩ := e1 j hj'; obtain ⟨m1, ra1, rc1, ka1, kc1, rfl, rfl, -⟩ := id hrk.get; refine cw_skip (nrm_then ?_); refine cw_seq ?_; refine cw_block ?_; refine cw_seq ?_; refine cw_region ?_
   refine wl_val rfl (ex_indexAddr (n := j) (by rw [ha1]; rfl) rfl Try.elem23 (by omega)) ?_
   refine wl_val rfl (ex_loadA rfl Try.agg25 Try.size25 (vs := [_, _, _, _, _, _, _, _, _]) rfl (hc1.evo hE10 (by simp))) ?_; refine wl_alloc rfl Try.zero25 fun b12 w13 hB14 hs15 hw16 => ?_; have hA17 := Apart.new (Lt.blk hB11) hs15; have hG18 := Ge.new hE10 hs15; have hG19 := Ge.new hV9 hs15; have hE20 := hE10.then hw16; have hE21 := hV9.then hw16; have hB22 := hw16.blk0 hB11; refine wl_storeBlk rfl rfl Try.size25 hB14 rfl rfl ⟨by first | rfl | assumption, by first | rfl | assumption, by first | rfl | assumption, by first | rfl | assumption, by first | rfl | assumption, by first | rfl | assumption, by first | rfl | assumption, by first | rfl | assumption, by first | rfl | assumption, trivial⟩ fun w23 hB24 hw25 => ?_; have hE26 := hE20.step hw25 hG18.mem1; have hE27 := hE21.step hw25 hG19.mem1; have hB28 := hw25.blk hB22 hA17.nmem1; refine wl_nil (nrm_then ?_); refine cw_region ?_; refine wl_m ?_; refine wl_val rfl (ex_loadBlk rfl Try.agg25 Try.size25 hB24 rfl) ?_; refine wl_call1 (vs := [_]) Try.goes30 rfl (ih (RRx.pers _ _ _ _ _ _ (hE26.mono (fun b hb => by cases hb)) hrk) (hg.kid _ (List.getElem_mem hj'))) rfl ?_; rintro _ w29 ⟨rfl, hw30⟩; have hE31 := hE26.then hw30; have hE32 := hE27.then hw30; have hB33 := hw30.blk0 hB28; have hB34 := hw30.blk0 hB24; refine wl_val rfl (ex_add_i64 rfl rfl (by omega) (by omega)) ?_; refine wl_val rfl (ex_min rfl rfl) ?_; refine wl_a ?_; refine wl_nil (nrm_block (nrm_then ?_)); refine cw_region ?_; refine wl_val rfl (ex_add_i64 rfl rfl (by omega) (by omega)) ?_; refine wl_m ?_; refine wl_nil (nrm_same ?_); refine ⟨(j + 1, if 10001 < s + min (t.kids[j].esz : Int) 10001 then 10001 else s + min (t.kids[j].esz : Int) 10001), ?_, ⟨rfl, rfl, trivial⟩, ⟨rfl, rfl, rfl, rfl, trivial⟩, hE32, ?_⟩
   · (try dsimp only); omega
   ·skip
    try dsimp only
    exact ⟨by omega, by rw [eszs_take hj', ite_min]; exact step_cap hs rfl⟩
  ·skip
   have hall : s = min (eszs t.kids : Int) 10001 := by rw [hs, List.take_of_length_le (by omega)]
   have hs0 : 0 ≤ s := by omega
   have hs1 : s ≤ 10001 := by omega
   refine cw_exit (ex_then (ex_then (ex_here (nrm_then ?_)))); refine cw_seq ?_; refine cw_seq ?_; refine cw_region ?_; refine wl_val rfl (ex_fieldAddr rfl Try.fld25_0) ?_; refine wl_val rfl (ex_load1 rfl Try.agg3 (cell_nth hB11 rfl)) ?_; refine wl_nil (nrm_then ?_); refine cw_block ?_; refine cw_seq ?_; refine cw_seq ?_; refine cw_region ?_; refine wl_val rfl (ex_eql rfl rfl) ?_; refine wl_a ?_; refine wl_nil (nrm_then ?_); refine cw_if rfl (fun hc21 => ?_) (fun hc21 => ?_)
   ·skip
    refine cw_skip (nrm_then ?_); refine cw_if rfl (fun hc21 => ?_) (fun hc21 => ?_)
    ·skip
     refine cw_skip (nrm_block (nrm_then ?_)); refine cw_seq ?_; refine cw_region ?_; refine wl_m ?_; refine wl_val rfl (ex_min rfl rfl) ?_; refine wl_a ?_; refine wl_nil (nrm_then ?_); refine cw_ret (body_ret1 rfl rfl ?_); refine ⟨congrArg (Value.int .i64) ?_, hE10⟩; rw [ite_min]
     first | (rw [esz1 (by omega), hall]; have hk0 : t.kids = [] := hg.node.leaf (by unfold Leafy; omega); rw [hk0]; rfl) | (rw [esz4 (by omega), hall]; omega)
    ·skip
     refine cw_seq ?_; refine cw_region ?_; refine wl_val rfl (ex_eql rfl rfl) ?_; refine wl_a ?_; refine wl_nil (nrm_then ?_); refine cw_if rfl (fun hc24 => ?_) (fun hc24 => ?_)
     ·skip
      have h52 := hn.two (by omega); refine cw_region ?_; refine wl_m ?_; refine wl_val rfl (ex_fieldAddr rfl Try.fld25_8) ?_; refine wl_val rfl (ex_load1 rfl Try.agg23 (cell_nth hB11 rfl)) ?_; refine wl_val rfl (ex_len_slice rfl Try.underlying23 rfl) ?_; refine wl_val rfl (ex_sub_i64 rfl rfl (by omega) (by omega)) ?_; refine wl_val rfl (ex_mul_i64 rfl rfl (by omega) (by omega)) ?_; refine wl_val rfl (ex_add_i64 rfl rfl (by omega) (by omega)) ?_; refine wl_a ?_; refine wl_nil (nrm_block (nrm_then ?_)); refine cw_seq ?_; refine cw_region ?_; refine wl_m ?_; refine wl_val rfl (ex_min rfl rfl) ?_; refine wl_a ?_; refine wl_nil (nrm_then ?_); refine cw_ret (body_ret1 rfl rfl ?_); refine ⟨congrArg (Value.int .i64) ?_, hE10⟩; rw [ite_min]
      rw [esz5 (by omega) (by omega), hall]; omega
     ·skip
      refine cw_seq ?_; refine cw_region ?_; refine wl_val rfl (ex_eql rfl rfl) ?_; refine wl_a ?_; refine wl_nil (nrm_then ?_); refine cw_if rfl (fun hc33 => ?_) (fun hc33 => ?_)
      ·skip
       refine cw_region ?_; refine wl_m ?_; refine wl_val rfl (ex_add_i64 rfl rfl (by omega) (by omega)) ?_; refine wl_a ?_; refine wl_nil (nrm_block (nrm_then ?_)); refine cw_seq ?_; refine cw_region ?_; refine wl_m ?_; refine wl_val rfl (ex_min rfl rfl) ?_; refine wl_a ?_; refine wl_nil (nrm_then ?_); refine cw_ret (body_ret1 rfl rfl ?_); refine ⟨congrArg (Value.int .i64) ?_, hE10⟩; rw [ite_min]; exact cap_two (esz7 (by omega)) hall
      ·skip
       refine cw_seq ?_; refine cw_region ?_; refine wl_val rfl (ex_eql rfl rfl) ?_; refine wl_a ?_; refine wl_nil (nrm_then ?_); refine cw_if rfl (fun hc37 => ?_) (fun hc37 => ?_)
       ·skip
        have h6 := hn.rep1 (by omega); have h62 := hn.rep2 (by omega); have h63 := hn.rep3 (by omega); have hmu := mul_bd h6 h62 hs0 hs1; refine cw_seq ?_; refine cw_region ?_; refine wl_val rfl (ex_fieldAddr rfl Try.fld25_4) ?_; refine wl_val rfl (ex_load1 rfl Try.agg3 (cell_nth hB11 rfl)) ?_; refine wl_val rfl (ex_lss rfl rfl) ?_; refine wl_nil (nrm_then ?_); refine cw_if rfl (fun hc41 => ?_) (fun hc41 => ?_)
        ·skip
         refine cw_region ?_; refine wl_val rfl (ex_fieldAddr rfl Try.fld25_3) ?_; refine wl_val rfl (ex_load1 rfl Try.agg3 (cell_nth hB11 rfl)) ?_; refine wl_m ?_; refine wl_val rfl (ex_mul_i64 rfl rfl (by omega) (by omega)) ?_; refine wl_m ?_; refine wl_val rfl (ex_add_i64 rfl rfl (by omega) (by omega)) ?_; refine wl_val rfl (ex_add_i64 rfl rfl (by omega) (by omega)) ?_; refine wl_a ?_; refine wl_nil (nrm_block (nrm_then ?_)); refine cw_seq ?_; refine cw_region ?_; refine wl_m ?_; refine wl_val rfl (ex_min rfl rfl) ?_; refine wl_a ?_; refine wl_nil (nrm_then ?_); refine cw_ret (body_ret1 rfl rfl ?_); refine ⟨congrArg (Value.int .i64) ?_, hE10⟩; rw [ite_min]
         rw [esz6a (by omega) h6 (by omega), hall]; exact cap_rep1 h6 (Int.natCast_nonneg _)
        ·skip
         have hmv := mul_bd (show 0 ≤ t.max - t.min by omega) (show t.max - t.min ≤ 1000 by omega) (show 0 ≤ s + 1 by omega) (show s + 1 ≤ 10002 by omega); refine cw_region ?_; refine wl_val rfl (ex_fieldAddr rfl Try.fld25_3) ?_; refine wl_val rfl (ex_load1 rfl Try.agg3 (cell_nth hB11 rfl)) ?_; refine wl_m ?_; refine wl_val rfl (ex_mul_i64 rfl rfl (by omega) (by omega)) ?_; refine wl_val rfl (ex_fieldAddr rfl Try.fld25_4) ?_; refine wl_val rfl (ex_load1 rfl Try.agg3 (cell_nth hB11 rfl)) ?_; refine wl_val rfl (ex_fieldAddr rfl Try.fld25_3) ?_; refine wl_val rfl (ex_load1 rfl Try.agg3 (cell_nth hB11 rfl)) ?_; refine wl_val rfl (ex_sub_i64 rfl rfl (by omega) (by omega)) ?_; refine wl_m ?_; refine wl_val rfl (ex_add_i64 rfl rfl (by omega) (by omega)) ?_; refine wl_val rfl (ex_mul_i64 rfl rfl (by omega) (by omega)) ?_; refine wl_val rfl (ex_add_i64 rfl rfl (by omega) (by omega)) ?_; refine wl_a ?_; refine wl_nil (nrm_block (nrm_then ?_)); refine cw_seq ?_; refine cw_region ?_; refine wl_m ?_; refine wl_val rfl (ex_min rfl rfl) ?_; refine wl_a ?_; refine wl_nil (nrm_then ?_); refine cw_ret (body_ret1 rfl rfl ?_); refine ⟨congrArg (Value.int .i64) ?_, hE10⟩; rw [ite_min]
         rw [esz6b (by omega) h6 (by omega), hall]; exact cap_rep2 h6 (by omega) (Int.natCast_nonneg _)
       ·skip
        refine cw_region ?_; refine wl_a ?_; refine wl_nil (nrm_block (nrm_then ?_)); refine cw_seq ?_; refine cw_region ?_; refine wl_m ?_; refine wl_val rfl (ex_min rfl rfl) ?_; refine wl_a ?_; refine wl_nil (nrm_then ?_); refine cw_ret (body_ret1 rfl rfl ?_); refine ⟨congrArg (Value.int .i64) ?_, hE10⟩; rw [ite_min]; rw [esz0 (by omega)]
   ·skip
    refine cw_region ?_; refine wl_val rfl (ex_eql rfl rfl) ?_; refine wl_a ?_; refine wl_nil (nrm_then ?_); refine cw_if rfl (fun hc21 => ?_) (fun hc21 => ?_)
    ·skip
     refine cw_skip (nrm_block (nrm_then ?_)); refine cw_seq ?_; refine cw_region ?_; refine wl_m ?_; refine wl_val rfl (ex_min rfl rfl) ?_; refine wl_a ?_; refine wl_nil (nrm_then ?_); refine cw_ret (body_ret1 rfl rfl ?_); refine ⟨congrArg (Value.int .i64) ?_, hE10⟩; rw [ite_min]
     first | (rw [esz1 (by omega), hall]; have hk0 : t.kids = [] := hg.node.leaf (by unfold Leafy; omega); rw [hk0]; rfl) | (rw [esz4 (by omega), hall]; omega)
    ·skip
     refine cw_seq ?_; refine cw_region ?_; refine wl_val rfl (ex_eql rfl rfl) ?_; refine wl_a ?_; refine wl_nil (nrm_then ?_); refine cw_if rfl (fun hc24 => ?_) (fun hc24 => ?_)
     ·skip
      have h52 := hn.two (by omega); refine cw_region ?_; refine wl_m ?_; refine wl_val rfl (ex_fieldAddr rfl Try.fld25_8) ?_; refine wl_val rfl (ex_load1 rfl Try.agg23 (cell_nth hB11 rfl)) ?_; refine wl_val rfl (ex_len_slice rfl Try.underlying23 rfl) ?_; refine wl_val rfl (ex_sub_i64 rfl rfl (by omega) (by omega)) ?_; refine wl_val rfl (ex_mul_i64 rfl rfl (by omega) (by omega)) ?_; refine wl_val rfl (ex_add_i64 rfl rfl (by omega) (by omega)) ?_; refine wl_a ?_; refine wl_nil (nrm_block (nrm_then ?_)); refine cw_seq ?_; refine cw_region ?_; refine wl_m ?_; refine wl_val rfl (ex_min rfl rfl) ?_; refine wl_a ?_; refine wl_nil (nrm_then ?_); refine cw_ret (body_ret1 rfl rfl ?_); refine ⟨congrArg (Value.int .i64) ?_, hE10⟩; rw [ite_min]
      rw [esz5 (by omega) (by omega), hall]; omega
     ·skip
      refine cw_seq ?_; refine cw_region ?_; refine wl_val rfl (ex_eql rfl rfl) ?_; refine wl_a ?_; refine wl_nil (nrm_then ?_); refine cw_if rfl (fun hc33 => ?_) (fun hc33 => ?_)
      ·skip
       refine cw_region ?_; refine wl_m ?_; refine wl_val rfl (ex_add_i64 rfl rfl (by omega) (by omega)) ?_; refine wl_a ?_; refine wl_nil (nrm_block (nrm_then ?_)); refine cw_seq ?_; refine cw_region ?_; refine wl_m ?_; refine wl_val rfl (ex_min rfl rfl) ?_; refine wl_a ?_; refine wl_nil (nrm_then ?_); refine cw_ret (body_ret1 rfl rfl ?_); refine ⟨congrArg (Value.int .i64) ?_, hE10⟩; rw [ite_min]; exact cap_two (esz7 (by omega)) hall
      ·skip
       refine cw_seq ?_; refine cw_region ?_; refine wl_val rfl (ex_eql rfl rfl) ?_; refine wl_a ?_; refine wl_nil (nrm_then ?_); refine cw_if rfl (fun hc37 => ?_) (fun hc37 => ?_)
       ·skip
        have h6 := hn.rep1 (by omega); have h62 := hn.rep2 (by omega); have h63 := hn.rep3 (by omega); have hmu := mul_bd h6 h62 hs0 hs1; refine cw_seq ?_; refine cw_region ?_; refine wl_val rfl (ex_fieldAddr rfl Try.fld25_4) ?_; refine wl_val rfl (ex_load1 rfl Try.agg3 (cell_nth hB11 rfl)) ?_; refine wl_val rfl (ex_lss rfl rfl) ?_; refine wl_nil (nrm_then ?_); refine cw_if rfl (fun hc41 => ?_) (fun hc41 => ?_)
        ·skip
         refine cw_region ?_; refine wl_val rfl (ex_fieldAddr rfl Try.fld25_3) ?_; refine wl_val rfl (ex_load1 rfl Try.agg3 (cell_nth hB11 rfl)) ?_; refine wl_m ?_; refine wl_val rfl (ex_mul_i64 rfl rfl (by omega) (by omega)) ?_; refine wl_m ?_; refine wl_val rfl (ex_add_i64 rfl rfl (by omega) (by omega)) ?_; refine wl_val rfl (ex_add_i64 rfl rfl (by omega) (by omega)) ?_; refine wl_a ?_; refine wl_nil (nrm_block (nrm_then ?_)); refine cw_seq ?_; refine cw_region ?_; refine wl_m ?_; refine wl_val rfl (ex_min rfl rfl) ?_; refine wl_a ?_; refine wl_nil (nrm_then ?_); refine cw_ret (body_ret1 rfl rfl ?_); refine ⟨congrArg (Value.int .i64) ?_, hE10⟩; rw [ite_min]
         rw [esz6a (by omega) h6 (by omega), hall]; exact cap_rep1 h6 (Int.natCast_nonneg _)
        ·skip
         have hmv := mul_bd (show 0 ≤ t.max - t.min by omega) (show t.max - t.min ≤ 1000 by omega) (show 0 ≤ s + 1 by omega) (show s + 1 ≤ 10002 by omega); refine cw_region ?_; refine wl_val rfl (ex_fieldAddr rfl Try.fld25_3) ?_; refine wl_val rfl (ex_load1 rfl Try.agg3 (cell_nth hB11 rfl)) ?_; refine wl_m ?_; refine wl_val rfl (ex_mul_i64 rfl rfl (by omega) (by omega)) ?_; refine wl_val rfl (ex_fieldAddr rfl Try.fld25_4) ?_; refine wl_val rfl (ex_load1 rfl Try.agg3 (cell_nth hB11 rfl)) ?_; refine wl_val rfl (ex_fieldAddr rfl Try.fld25_3) ?_; refine wl_val rfl (ex_load1 rfl Try.agg3 (cell_nth hB11 rfl)) ?_; refine wl_val rfl (ex_sub_i64 rfl rfl (by omega) (by omega)) ?_; refine wl_m ?_; refine wl_val rfl (ex_add_i64 rfl rfl (by omega) (by omega)) ?_; refine wl_val rfl (ex_mul_i64 rfl rfl (by omega) (by omega)) ?_; refine wl_val rfl (ex_add_i64 rfl rfl (by omega) (by omega)) ?_; refine wl_a ?_; refine wl_nil (nrm_block (nrm_then ?_)); refine cw_seq ?_; refine cw_region ?_; refine wl_m ?_; refine wl_val rfl (ex_min rfl rfl) ?_; refine wl_a ?_; refine wl_nil (nrm_then ?_); refine cw_ret (body_ret1 rfl rfl ?_); refine ⟨congrArg (Value.int .i64) ?_, hE10⟩; rw [ite_min]
         rw [esz6b (by omega) h6 (by omega), hall]; exact cap_rep2 h6 (by omega) (Int.natCast_nonneg _)
       ·skip
        refine cw_region ?_; refine wl_a ?_; refine wl_nil (nrm_block (nrm_then ?_)); refine cw_seq ?_; refine cw_region ?_; refine wl_m ?_; refine wl_val rfl (ex_min rfl rfl) ?_; refine wl_a ?_; refine wl_nil (nrm_then ?_); refine cw_ret (body_ret1 rfl rfl ?_); refine ⟨congrArg (Value.int .i64) ?_, hE10⟩; rw [ite_min]; rw [esz0 (by omega)]
theorem size_ok : ∀ {n : Nat} {X : List Nat} {w : World} {vs : List Value} {t : Rx} (hx : RRx n X w vs t) (hg : Good t), Calls Try.prog 30 #[.agg vs.toArray] w (Ret fun v w' => v = .int .i64 (min (t.esz : Int) 10001) ∧ Evo [] w w')
  | 0, X, w, vs, t, hx, hg => hx.elim
  | n + 1, X, w, vs, t, hx, hg => size_step (n := n) (fun hx hg => size_ok hx hg) hx hg
def SizeIs (t : Rx) (r : Int) : Prop := (t.Ok → r = min ((t.esz : Int) + 1) 10001) ∧ (¬ t.Ok → r = 0)
theorem cap_one (e : Int) : min (min e 10001 + 1) 10001 = min (e + 1) 10001 := by omega
theorem Size_ok {n : Nat} {w : World} {vs : List Value} {t : Rx} (hx : RRx n [] w vs t) : Calls Try.prog 15 #[.agg vs.toArray] w (Ret fun v w' => ∃ r, v = .int .i64 r ∧ SizeIs t r ∧ Evo [] w w') := by
  have hx0 := hx; obtain ⟨m, ra, rc, ka, kc, hm, rfl, hrg, hk, bl1, bl2, bl3⟩ := hx.get; refine calls_of_cw (N := 10) Try.func15 rfl rfl rfl ?_; refine cw_seq ?_; refine cw_region ?_; refine wl_boxA rfl rfl fun b1 w2 hB3 hs4 hw5 => ?_; have hG6 := Ge.new (Evo.refl [] w) hs4; have hE7 := (Evo.refl [] w).then hw5; refine wl_a ?_; refine wl_nil (nrm_then ?_); refine cw_seq ?_; refine cw_seq ?_; refine cw_region ?_; refine wl_val rfl (ex_loadBlk rfl Try.agg25 Try.size25 hB3 rfl) ?_; refine wl_call1 (vs := [_]) Try.goes29 rfl (valid_ok (RRx.pers _ _ _ _ _ _ hE7 hx0)) rfl ?_; rintro _ w8 ⟨r, rfl, hr, hw9⟩; have hE10 := hE7.then hw9; have hB11 := hw9.blk0 hB3; refine wl_val rfl (ex_notb rfl) ?_; refine wl_nil (nrm_then ?_); refine cw_ifb rfl (fun hc5 => ?_) (fun hc5 => ?_)
  ·skip
   refine cw_seq ?_; refine cw_region ?_; refine wl_a ?_; refine wl_nil (nrm_then ?_); refine cw_ret (ret_then (body_ret1 rfl rfl ?_))
   exact ⟨0, rfl, ⟨fun h => (by rw [hr.2 h] at hc5; cases hc5), fun _ => rfl⟩, hE10⟩
  ·skip
   have hok : t.Ok := hr.1 (by simpa using hc5); refine cw_skip (nrm_then ?_); refine cw_seq ?_; refine cw_region ?_; refine wl_val rfl (ex_loadBlk rfl Try.agg25 Try.size25 hB11 rfl) ?_; refine wl_call1 (vs := [_]) Try.goes30 rfl (size_ok (RRx.pers _ _ _ _ _ _ hE10 hx0) hok.good) rfl ?_; rintro _ w12 ⟨rfl, hw13⟩; have hE14 := hE10.then hw13; have hB15 := hw13.blk0 hB11; refine wl_val rfl (ex_add_i64 rfl rfl (by omega) (by omega)) ?_; refine wl_val rfl (ex_min rfl rfl) ?_; refine wl_a ?_; refine wl_nil (nrm_then ?_); refine cw_ret (body_ret1 rfl rfl ?_)
   exact ⟨_, rfl, ⟨fun _ => by rw [ite_min]; exact cap_one _, fun h => (h hok).elim⟩, hE14⟩
end Go.Proofs.Ytgboffefbpligaa
namespace Go.Proofs.Ytgboffefbpligaa
open Go.Proofs
open Go.W Go.RowKit
attribute [local irreducible] Decidable.decide
set_option linter.unusedSimpArgs false
set_option linter.unusedVariables false
theorem Try.agg29 : aggB Try.prog 29 = some true := by kernel_rfl
theorem Try.build29 : Build Try.prog 29 #[(0, 1), (1, 1), (2, 1), (3, 1)] #[.slice none 0 0, .int .i64 0, .int .i64 0, .slice none 0 0] := ⟨_, .agg #[.slice none 0 0, .int .i64 0, .int .i64 0, .slice none 0 0], Try.underlying29, by kernel_rfl, rfl, fun w => by kernel_rfl⟩
theorem Try.build51 : Build Try.prog 51 #[(0, 1), (1, 1)] #[.int .i32 0, .int .i32 0] := ⟨_, .agg #[.int .i32 0, .int .i32 0], Try.underlying51, by kernel_rfl, rfl, fun w => by kernel_rfl⟩
theorem Try.goes15 : Goes Try.prog 15 := ⟨_, Try.func15, by kernel_rfl, by kernel_rfl⟩
theorem Try.goes17 : Goes Try.prog 17 := ⟨_, Try.func17, by kernel_rfl, by kernel_rfl⟩
theorem Try.goes32 : Goes Try.prog 32 := ⟨_, Try.func32, by kernel_rfl, by kernel_rfl⟩
theorem Try.goes33 : Goes Try.prog 33 := ⟨_, Try.func33, by kernel_rfl, by kernel_rfl⟩
theorem Try.goes34 : Goes Try.prog 34 := ⟨_, Try.func34, by kernel_rfl, by kernel_rfl⟩
theorem Try.size29 : sizeB Try.prog 29 = some 4 := by kernel_rfl
theorem Try.zero29 : zeroB Try.prog 29 = some #[.slice none 0 0, .int .i64 0, .int .i64 0, .slice none 0 0] := by kernel_rfl
theorem Try.zero41 : zeroB Try.prog 41 = some #[.slice none 0 0] := by kernel_rfl
structure CtI (w wr : World) (cb : Nat) (es : List Iv) (ob : Option Nat) (Z : List Nat) (ks : List Rx) (x : RpG) : Prop where
  j : x.k ≤ ks.length
  cd : CdAt wr cb (es ++ x.new) x.pa x.pc x.po Z
  po : x.po = ob ∨ ∃ g, x.po = some g ∧ w.heap.size ≤ g
  pre : CatC (ks.take x.k) es.length (x.new.map (·.1))
  len : x.new.length ≤ eszs (ks.take x.k)
  nice : ∀ e, e ∈ x.new → Nice e.1
theorem RangesOk.low {l : List (Int × Int)} (h : RangesOk l) : ∀ i (hi : i < l.length), 2 * (i : Int) ≤ l[i].1
  | 0, hi => by have := (h.1 0 hi).1; omega
  | i + 1, hi => by
    have h1 := h.low i (by omega)
    have h2 := h.1 i (by omega)
    have h3 := (h.1 (i + 1) hi).2.2.2 i (by omega) rfl
    omega
theorem RangesOk.len {l : List (Int × Int)} (h : RangesOk l) : l.length ≤ 1048576 := by
  by_cases e : l.length = 0
  · omega
  · have h1 := h.low (l.length - 1) (by omega)
    have h2 := h.1 (l.length - 1) (by omega)
    omega
theorem rows_rr (X : List Nat) (w : World) (a b : Int) : RowsOk 2 RRg X w [[.int .i32 a, .int .i32 b]] [(a, b)] := by
  refine ⟨rfl, fun k hk hk' => ?_⟩
  simp at hk
  subst hk
  exact ⟨rfl, rfl⟩
theorem memZ_lt {w w1 : World} {cb : Nat} {es : List Iv} {a : Option Addr} {c : Nat} {ob : Option Nat} {Z X : List Nat} (h : CdAt w cb es a c ob Z) (hZ : ∀ z, z ∈ Z → z < w.heap.size) (he : Evo X w w1) : ∀ z, z ∈ cb :: (ob.toList ++ Z) → z < w1.heap.size := fun z hz => by
  rw [← List.cons_append] at hz
  rcases List.mem_append.1 hz with h1 | h1
  · exact Nat.lt_of_lt_of_le (h.lt z h1) he.size
  · exact Nat.lt_of_lt_of_le (hZ z h1) he.size
set_option maxHeartbeats 8000000 in
theorem code_step {n : Nat} (ih : ∀ {w : World} {cb : Nat} {es : List Iv} {a : Option Addr} {c : Nat} {ob : Option Nat} {Z : List Nat} {vs : List Value} {t : Rx} (hC : CdAt w cb es a c ob Z) (hx : RRx n (cb :: ob.toList) w vs t) (hg : Good t) (hl : es.length + t.esz ≤ 100000) (hZ : ∀ z, z ∈ Z → z < w.heap.size), Calls Try.prog 16 #[.pointer (some ⟨cb, 0, none⟩), .agg vs.toArray] w (Ret fun v w' => v = .tuple #[] ∧ Evo (cb :: ob.toList) w w' ∧ ∃ new, CdTo w w' cb ob (es ++ new) Z ∧ Codes t es.length (new.map (·.1)) ∧ new.length ≤ t.esz ∧ ∀ e, e ∈ new → Nice e.1)) {w : World} {cb : Nat} {es : List Iv} {a : Option Addr} {c : Nat} {ob : Option Nat} {Z : List Nat} {vs : List Value} {t : Rx} (hC : CdAt w cb es a c ob Z) (hx : RRx (n + 1) (cb :: ob.toList) w vs t) (hg : Good t) (hl : es.length + t.esz ≤ 100000) (hZ : ∀ z, z ∈ Z → z < w.heap.size) : Calls Try.prog 16 #[.pointer (some ⟨cb, 0, none⟩), .agg vs.toArray] w (Ret fun v w' => v = .tuple #[] ∧ Evo (cb :: ob.toList) w w' ∧ ∃ new, CdTo w w' cb ob (es ++ new) Z ∧ Codes t es.length (new.map (·.1)) ∧ new.length ≤ t.esz ∧ ∀ e, e ∈ new → Nice e.1) := by
  have hXlt := hC.lt; have hx0 := hx; obtain ⟨m, ra, rc, ka, kc, hm, rfl, hrg, hk, bl1, bl2, bl3⟩ := hx.get
  obtain rfl : m = n := by omega
  have hk0 := hk; obtain ⟨_, _, hke, hkc, e1⟩ := hk; cases hke; have hn := (nodeP_iff t).1 hg.node; have hcap := hg.capb
  have hAJN0 : Apart (some cb) ob := fun g h1 h2 => by cases h1; exact hC.ne cb h2 rfl
  have hmZ : ∀ b, b ∈ cb :: ob.toList → b ∈ cb :: (ob.toList ++ Z) := fun b hb => by rw [← List.cons_append]; exact List.mem_append_left _ hb
  refine calls_of_cw (N := 114) Try.func16 rfl rfl rfl ?_; refine cw_seq ?_; refine cw_region ?_; refine wl_boxA rfl rfl fun b3 w1 hB2 hs3 hw4 => ?_; have hsz_b3 := hs3; have hA5 := Apart.new (Lt.blk hC.blk) hs3; have hA6 := Apart.new (Lt.own hC.own) hs3; have hG7 := Ge.new (Evo.refl (cb :: ob.toList) w) hs3; have hG8 := Ge.new (Evo.refl [] w) hs3; have hE9 := (Evo.refl (cb :: ob.toList) w).then hw4; have hE10 := (Evo.refl [] w).then hw4; have hB11 := hw4.blk0 hC.blk; have hO12 := hC.own.evo0 hw4; refine wl_nil (nrm_then ?_); refine cw_seq ?_; refine cw_region ?_; refine wl_val rfl (ex_fieldAddr rfl Try.fld25_0) ?_; refine wl_val rfl (ex_load1 rfl Try.agg3 (cell_nth hB2 rfl)) ?_; refine wl_nil (nrm_then ?_); refine cw_block ?_; refine cw_seq ?_; refine cw_region ?_; refine wl_val rfl (ex_eql rfl rfl) ?_; refine wl_a ?_; refine wl_nil (nrm_then ?_); refine cw_if rfl (fun hc8 => ?_) (fun hc8 => ?_)
  ·skip
   have hk2 : t.kind = 2 := by omega
   refine cw_region ?_; refine wl_m ?_; refine wl_val rfl (ex_fieldAddr rfl Try.fld25_1) ?_; refine wl_val rfl (ex_load1 rfl Try.agg21 (cell_nth hB2 rfl)) ?_; refine wl_val rfl (ex_fieldAddr rfl Try.fld25_1) ?_; refine wl_val rfl (ex_load1 rfl Try.agg21 (cell_nth hB2 rfl)) ?_; refine wl_val rfl (ex_build (vs := [(0, _), (1, _)]) Try.build51 rfl (cells := [_, _]) rfl) ?_; have hev16 := hE9; refine wl_bslice (vs := [_]) rfl Try.slice22 rfl rfl rfl rfl fun b13 w14 hO15 hs16 hw17 => ?_; have hA18 := Apart.new (Lt.blk hB11) hs16; have hA19 := Apart.new (Lt.own hO12) hs16; have hA20 := Apart.new (Lt.blk hB2) hs16; have hG21 := Ge.new hE9 hs16; have hG22 := Ge.new hE10 hs16; have hE23 := hE9.then hw17; have hE24 := hE10.then hw17; have hB25 := hw17.blk0 hB11; have hO26 := hO12.evo0 hw17; have hB27 := hw17.blk0 hB2; refine wl_val rfl (ex_build (vs := [(0, _), (4, _)]) Try.build44 rfl (cells := [_, _, _, _, _]) rfl) ?_; have hsl := hO15
   have hslx : ∀ g, some b13 = some g → g ∉ cb :: (ob.toList ++ Z) := fun g hg hm => by have h1 := memZ_lt hC hZ (Evo.refl [] w) _ hm; have h2 := hG21 g hg; omega
   refine wl_call1 (vs := [_, _]) Try.goes31 rfl (put_ok (rs := [(t.r, t.r)]) (hC.evo0 hE24) (RSl.ofOwn (rows := [[.int .i32 t.r, .int .i32 t.r]]) hsl (rows_rr _ _ _ _) rfl hslx) (by omega)) rfl ?_; rintro _ w28 ⟨rfl, hw29, hto1⟩; have hlt_b3_1 := (Lt.blk hB27); have hlt_b13_1 := (Lt.own hO15); have hev_1 := hE23; have hE30 := hE23.step hw29 (mem_ob (.inl rfl)); have hB31 := hw29.blk hB27 (nmem2 hA5.symm hA6.symm); have hB32 := hO15.evo hw29 (nmem2o hA18.symm hA19.symm); obtain ⟨pa_1, pc_1, po_1, hC_1, hp_1⟩ := hto1; have hq_1 := fr_trans (.inl rfl) hev_1 hp_1; have hA_b3_1 := ap_ob hA6.symm hlt_b3_1 hp_1; have hA_b13_1 := ap_ob hA19.symm hlt_b13_1 hp_1
   have hAJN_1 : Apart (some cb) po_1 := fun g h1 h2 => by cases h1; exact hC_1.ne cb h2 rfl
   refine wl_nil (nrm_block (body_end0 rfl ?_))
   refine ⟨rfl, hE30, [(⟨2, (es.length : Nat) + 1, 0, 0, [(t.r, t.r)]⟩, _)], ⟨_, _, _, hC_1.evo0 (Evo.refl [] w28), hq_1⟩, codes_lit (by omega), by have := esz0 (t := t) (by omega); show 1 ≤ t.esz; omega, nice_one ⟨by simp, by show (0 : Int) ≤ (es.length : Nat) + 1; omega, Int.le_refl _, by show 1 ≤ 1048576; decide⟩⟩
  ·skip
   refine cw_seq ?_; refine cw_region ?_; refine wl_val rfl (ex_eql rfl rfl) ?_; refine wl_a ?_; refine wl_nil (nrm_then ?_); refine cw_if rfl (fun hc19 => ?_) (fun hc19 => ?_)
   ·skip
    refine cw_seq ?_; refine cw_seq ?_; refine cw_region ?_; refine wl_val rfl (ex_fieldAddr rfl Try.fld25_2) ?_; refine wl_val rfl (ex_load1 rfl Try.agg22 (cell_nth hB2 rfl)) ?_; refine wl_val rfl (ex_len_slice rfl Try.underlying22 rfl) ?_; refine wl_val rfl (ex_eql rfl rfl) ?_; refine wl_nil (nrm_then ?_); refine cw_if rfl (fun hc24 => ?_) (fun hc24 => ?_)
    ·skip
     refine cw_seq ?_; refine cw_region ?_; refine wl_m ?_; refine wl_m ?_; refine wl_val rfl (ex_nilCheck rfl) ?_; refine wl_val rfl (ex_load1 rfl Try.agg41 (cell_nth hB11 rfl)) ?_; refine wl_val rfl (ex_build (vs := [(0, _)]) Try.build44 rfl (cells := [_, _, _, _, _]) rfl) ?_; refine wl_bslice (vs := [_]) rfl Try.slice41 rfl rfl rfl rfl fun b33 w34 hO35 hs36 hw37 => ?_; have hA38 := Apart.new (Lt.blk hB11) hs36; have hA39 := Apart.new (Lt.own hO12) hs36; have hA40 := Apart.new (Lt.blk hB2) hs36; have hG41 := Ge.new hE9 hs36; have hG42 := Ge.new hE10 hs36; have hE43 := hE9.then hw37; have hE44 := hE10.then hw37; have hB45 := hw37.blk0 hB11; have hO46 := hO12.evo0 hw37; have hB47 := hw37.blk0 hB2; have hszg := (hE43).size; refine wl_append rfl rfl rfl rfl Try.app41_41 hO46 (Src.ofOwn hO35 ⟨by first | rfl | assumption, by first | rfl | assumption, by first | rfl | assumption, by first | rfl | assumption, by first | rfl | assumption, trivial⟩) (by omega) fun a2 c2 w50 ob2 hO2 hw53 hob54 => ?_; have hA55 := hAJN0.app (Lt.blk hB45) hob54; have hA56 := hA6.symm.app (Lt.blk hB47) hob54; have hA57 := hA39.symm.app (Lt.own hO35) hob54; have hE58 := hE43.step hw53 (fun y hy => .inl (List.mem_cons_of_mem _ hy)); have hB60 := hw53.blk hB45 hAJN0.nmem; have hB61 := hw53.blk hB47 hA6.symm.nmem; have hO62 := hO35.evo hw53 hA39.symm.own; have hob2 : ob2 = ob ∨ ∃ g, ob2 = some g ∧ w.heap.size ≤ g := hob54.imp id (fun ⟨g, h1, h2⟩ => ⟨g, h1, Nat.le_trans hszg h2⟩); refine wl_val rfl (ex_nilCheck rfl) ?_; refine wl_store1 rfl rfl (by first | rfl | assumption) Try.size41 hB60 rfl fun w63 hB64 hw65 => ?_
     have hE66 := hE58.step hw65 (fun y hy => .inl (by rw [List.mem_singleton.1 hy]; exact List.mem_cons_self ..))
     have hB67 := hw65.blk hB61 hA5.symm.nmem1; have hO68 := hO62.evo hw65 hA38.symm.own1; have hO69 := hO2.evo hw65 hA55.symm.own1
     try simp only [List.setIfInBounds_toArray, List.set_cons_zero, List.set_cons_succ, Nat.reduceAdd, Nat.zero_add, Nat.add_zero] at hB64
     refine wl_nil (nrm_then ?_); refine cw_ret (ret_then (ret_block (body_ret0 rfl ?_)))
     refine ⟨rfl, hE66, [(⟨11, 0, 0, 0, []⟩, .slice none 0 0)], ⟨a2, c2, ob2, ⟨?_, ?_, own_new hC.ne (blk_lt hC.blk) hob2, fun e he => ?_⟩, hob2⟩, codes_fail (by omega) (List.length_eq_zero_iff.1 (by omega)), by have := esz0 (t := t) (by omega); show 1 ≤ t.esz; omega, nice_one ⟨by simp, Int.le_refl _, Int.le_refl _, Nat.zero_le _⟩⟩
     · rw [List.length_append]; exact hB64
     · rw [List.length_append, flat_append]; exact hO69
     · rcases List.mem_append.1 he with he | he
       · exact rrg_step (hC.rs e he) ((hE66).mono hmZ) (mem_obZ hob2)
       · rw [List.mem_singleton] at he; subst he; exact rnil0
    ·skip
     refine cw_skip (nrm_then ?_); refine cw_region ?_; refine wl_m ?_; refine wl_val rfl (ex_fieldAddr rfl Try.fld25_2) ?_; refine wl_val rfl (ex_load1 rfl Try.agg22 (cell_nth hB2 rfl)) ?_; refine wl_call1 (vs := [_]) Try.goes32 rfl (cloneR_ok (RSl.evo RRg.pers ((hE10).any _) hrg) (memZ_lt hC hZ hE9) (hg.node.cls (by omega)).len) rfl ?_; rintro vr w70 ⟨hrc, hw71⟩; have hE72 := hE9.then hw71; have hE73 := hE10.then hw71; have hB74 := hw71.blk0 hB11; have hO75 := hO12.evo0 hw71; have hB76 := hw71.blk0 hB2; obtain ⟨va, vc, rfl, -⟩ := id hrc; refine wl_val rfl (ex_build (vs := [(0, _), (4, _)]) Try.build44 rfl (cells := [_, _, _, _, _]) rfl) ?_; refine wl_call1 (vs := [_, _]) Try.goes31 rfl (put_ok (rs := t.ranges) (hC.evo0 hE73) hrc (by omega)) rfl ?_; rintro _ w77 ⟨rfl, hw78, hto1⟩; have hlt_b3_1 := (Lt.blk hB76); have hev_1 := hE72; have hE79 := hE72.step hw78 (mem_ob (.inl rfl)); have hB80 := hw78.blk hB76 (nmem2 hA5.symm hA6.symm); obtain ⟨pa_1, pc_1, po_1, hC_1, hp_1⟩ := hto1; have hq_1 := fr_trans (.inl rfl) hev_1 hp_1; have hA_b3_1 := ap_ob hA6.symm hlt_b3_1 hp_1
     have hAJN_1 : Apart (some cb) po_1 := fun g h1 h2 => by cases h1; exact hC_1.ne cb h2 rfl
     refine wl_nil (nrm_block (body_end0 rfl ?_))
     refine ⟨rfl, hE79, [(⟨2, (es.length : Nat) + 1, 0, 0, t.ranges⟩, _)], ⟨_, _, _, hC_1.evo0 (Evo.refl [] w77), hq_1⟩, codes_class (by omega) (fun h => by rw [h] at hc24; simp at hc24), by have := esz0 (t := t) (by omega); show 1 ≤ t.esz; omega, nice_one ⟨by simp, by show (0 : Int) ≤ (es.length : Nat) + 1; omega, Int.le_refl _, (hg.node.cls (by omega)).len⟩⟩
   ·skip
    refine cw_seq ?_; refine cw_region ?_; refine wl_val rfl (ex_eql rfl rfl) ?_; refine wl_a ?_; refine wl_nil (nrm_then ?_); refine cw_if rfl (fun hc39 => ?_) (fun hc39 => ?_)
    ·skip
     have he4 := esz4 (t := t) (by omega); refine cw_seq ?_; refine cw_region ?_; refine wl_val rfl (ex_fieldAddr rfl Try.fld25_8) ?_; refine wl_val rfl (ex_load1 rfl Try.agg23 (cell_nth hB2 rfl)) ?_; refine wl_val rfl (ex_len_slice rfl Try.underlying23 rfl) ?_; refine wl_m ?_; refine wl_nil (nrm_then ?_); refine cw_block ?_
     refine cw_loop (α := RpG) (⟨0, [], a, c, ob⟩) (fun x => [(44, .int .i64 (x.k : Nat))]) [(0, _), (42, _), (43, _)] (fun x wr => Evo (cb :: ob.toList) w wr ∧ (CtI w wr cb es ob Z t.kids x)) (fun x => t.kids.length - x.k) ⟨rfl, trivial⟩ ⟨rfl, rfl, rfl, trivial⟩ ⟨hE9, ⟨Nat.zero_le _, by rw [List.append_nil]; exact hC.evo0 hE10, .inl rfl, CatC.nil _, Nat.zero_le _, (fun _ h => by cases h)⟩⟩ ?_
     rintro ⟨k, new, pa, pc, po⟩ wr81 ⟨hV82, ⟨hj, hcd, hq, hpre, hlen, hnice⟩⟩; show CW _ _ _ _ [(44, .int .i64 (k : Nat)), (0, _), (42, _), (43, _)] _
     try dsimp only at hj
     try dsimp only at hcd
     try dsimp only at hq
     try dsimp only at hpre
     try dsimp only at hlen
     try dsimp only at hnice
     have hAJN : Apart (some cb) po := fun g h1 h2 => by cases h1; exact hcd.ne cb h2 rfl
     refine cw_seq ?_; refine cw_region ?_; refine wl_val rfl (ex_lss rfl rfl) ?_; refine wl_nil (nrm_then ?_); refine cw_seq ?_; refine cw_if rfl (fun hc45 => ?_) (fun hc45 => ?_)
     ·skip
      have hj' : k < t.kids.length := by omega
      obtain ⟨b1, o1, vs1, ha1, hb1, hvl1, hc1, hrk⟩ := e1 k hj'; obtain ⟨m1, ra1, rc1, ka1, kc1, rfl, rfl, -⟩ := id hrk.get; have hek := eszs_le hj'; refine cw_skip (nrm_then ?_); refine cw_seq ?_; refine cw_block ?_; refine cw_seq ?_; refine cw_region ?_
      refine wl_val rfl (ex_indexAddr (n := k) (by rw [ha1]; rfl) rfl Try.elem23 (by omega)) ?_
      refine wl_val rfl (ex_loadA rfl Try.agg25 Try.size25 (vs := [_, _, _, _, _, _, _, _, _]) rfl (hc1.evo hV82 hb1)) ?_; refine wl_alloc rfl Try.zero25 fun b5 w83 hB84 hs85 hw86 => ?_; have hsz_b5 := hs85; have hA87 := Apart.new (Lt.blk hcd.blk) hs85; have hA88 := Apart.new (Lt.own hcd.own) hs85; have hG89 := Ge.new hV82 hs85; have hG90 := Ge.new (Evo.refl [] wr81) hs85; have hE91 := hV82.then hw86; have hE92 := (Evo.refl [] wr81).then hw86; have hB93 := hw86.blk0 hcd.blk; have hO94 := hcd.own.evo0 hw86; refine wl_storeBlk rfl rfl Try.size25 hB84 rfl rfl ⟨by first | rfl | assumption, by first | rfl | assumption, by first | rfl | assumption, by first | rfl | assumption, by first | rfl | assumption, by first | rfl | assumption, by first | rfl | assumption, by first | rfl | assumption, by first | rfl | assumption, trivial⟩ fun w95 hB96 hw97 => ?_; have hE98 := hE91.step hw97 hG89.mem1; have hE99 := hE92.step hw97 hG90.mem1; have hB100 := hw97.blk hB93 hA87.nmem1; have hO101 := hO94.evo hw97 hA88.own1
      try simp only [List.setIfInBounds_toArray, List.set_cons_zero, List.set_cons_succ, Nat.reduceAdd, Nat.zero_add, Nat.add_zero] at hB96
      refine wl_nil (nrm_then ?_); refine cw_region ?_; refine wl_m ?_; refine wl_val rfl (ex_loadBlk rfl Try.agg25 Try.size25 hB96 rfl) ?_; have hZw : ∀ z, z ∈ Z → z < (w95).heap.size := fun z hz => Nat.lt_of_lt_of_le (hZ z hz) (hE98).size
      refine wl_call1 (vs := [_, _]) Try.goes16 rfl (ih (t := t.kids[k]) (hcd.evo0 hE99) (RRx.step hrk hE98 (mem_ob hq) hXlt) (hg.kid _ (List.getElem_mem hj')) (by simp only [List.length_append, List.length_cons, List.length_nil]; omega) hZw) rfl ?_
      rintro _ w102 ⟨-, hw103, kx1, hto1, hkx1, hkl1, hkn1⟩; have hlt_b5_1 := (Lt.blk hB96); have hev_1 := hE98; have hE104 := hE98.step hw103 (mem_ob hq); have hB105 := hw103.blk hB96 (nmem2 hA87.symm hA88.symm); obtain ⟨pa_1, pc_1, po_1, hC_1, hp_1⟩ := hto1; have hq_1 := fr_trans hq hev_1 hp_1; have hA_b5_1 := ap_ob hA88.symm hlt_b5_1 hp_1
      have hAJN_1 : Apart (some cb) po_1 := fun g h1 h2 => by cases h1; exact hC_1.ne cb h2 rfl
      refine wl_nil (nrm_block (nrm_then ?_)); refine cw_region ?_; refine wl_val rfl (ex_add_i64 rfl rfl (by omega) (by omega)) ?_; refine wl_m ?_; refine wl_nil (nrm_same ?_); refine ⟨⟨k + 1, new ++ kx1, pa_1, pc_1, po_1⟩, ?_, ⟨rfl, trivial⟩, ⟨rfl, rfl, rfl, trivial⟩, hE104, ?_⟩
      · (try dsimp only); omega
      ·skip
       try dsimp only
       have hx' : Codes t.kids[k] (es.length + (new.map (·.1)).length) (kx1.map (·.1)) := by rw [List.length_map]; have h := hkx1; rwa [List.length_append] at h
       refine ⟨by show k + 1 ≤ _; omega, (hC_1.evo0 (Evo.refl [] w102)).cast (List.append_assoc ..), hq_1, ?_, ?_, nice_app hnice hkn1⟩
       · show CatC (t.kids.take (k + 1)) _ _; rw [List.take_add_one, List.getElem?_eq_getElem hj', List.map_append]; exact hpre.snoc hx'
       · show _ ≤ eszs (t.kids.take (k + 1)); rw [eszs_take hj', List.length_append]; omega
     ·skip
      refine cw_exit (ex_then (ex_then (ex_here (nrm_block (body_end0 rfl ?_))))); have hall : t.kids.take k = t.kids := List.take_of_length_le (by omega); rw [hall] at hpre hlen; exact ⟨rfl, hV82, new, ⟨_, _, _, hcd.evo0 (Evo.refl [] wr81), hq⟩, codes_cat (by omega) hpre, by omega, hnice⟩
    ·skip
     refine cw_seq ?_; refine cw_region ?_; refine wl_val rfl (ex_eql rfl rfl) ?_; refine wl_a ?_; refine wl_nil (nrm_then ?_); refine cw_if rfl (fun hc52 => ?_) (fun hc52 => ?_)
     ·skip
      refine cw_region ?_; refine wl_m ?_; refine wl_val rfl (ex_fieldAddr rfl Try.fld25_8) ?_; refine wl_val rfl (ex_load1 rfl Try.agg23 (cell_nth hB2 rfl)) ?_; have hZw : ∀ z, z ∈ Z → z < (w1).heap.size := fun z hz => Nat.lt_of_lt_of_le (hZ z hz) (hE9).size
      refine wl_call1 (vs := [_, _]) Try.goes33 rfl (choice_step ih (hC.evo0 hE10) (RSl.evo (RRx.pers _) hE9 hk0) (by have := hn.two (by omega); omega) bl3 (fun k hk => hg.kid k hk) (by have h2 := hn.two (by omega); have := esz5 (t := t) (by omega) (by omega); omega) hZw) rfl ?_
      rintro _ w106 ⟨-, hw107, kx1, hto1, hkx1, hkl1, hkn1⟩; have hlt_b3_1 := (Lt.blk hB2); have hev_1 := hE9; have hE108 := hE9.step hw107 (mem_ob (.inl rfl)); have hB109 := hw107.blk hB2 (nmem2 hA5.symm hA6.symm); obtain ⟨pa_1, pc_1, po_1, hC_1, hp_1⟩ := hto1; have hq_1 := fr_trans (.inl rfl) hev_1 hp_1; have hA_b3_1 := ap_ob hA6.symm hlt_b3_1 hp_1
      have hAJN_1 : Apart (some cb) po_1 := fun g h1 h2 => by cases h1; exact hC_1.ne cb h2 rfl
      refine wl_nil (nrm_block (body_end0 rfl ?_))
      exact ⟨rfl, hE108, kx1, ⟨_, _, _, hC_1.evo0 (Evo.refl [] w106), hq_1⟩, codes_alt (by omega) (by intro l hl; rw [List.length_map]; exact hkx1 l hl), by have := esz5 (t := t) (by omega) (by have := hn.two (by omega); omega); have := hn.two (by omega); omega, hkn1⟩
     ·skip
      refine cw_seq ?_; refine cw_region ?_; refine wl_val rfl (ex_eql rfl rfl) ?_; refine wl_a ?_; refine wl_nil (nrm_then ?_); refine cw_if rfl (fun hc58 => ?_) (fun hc58 => ?_)
      ·skip
       refine cw_region ?_; refine wl_m ?_; refine wl_val rfl (ex_loadBlk rfl Try.agg25 Try.size25 hB2 rfl) ?_; have hZw : ∀ z, z ∈ Z → z < (w1).heap.size := fun z hz => Nat.lt_of_lt_of_le (hZ z hz) (hE9).size; refine wl_call1 (vs := [_, _]) Try.goes34 rfl (repeat_step ih (hC.evo0 hE10) (RRx.pers _ _ _ _ _ _ hE9 hx0) hg hl hZw (by omega)) rfl ?_; rintro _ w110 ⟨-, hw111, kx1, hto1, hkx1, hkl1, hkn1⟩; have hlt_b3_1 := (Lt.blk hB2); have hev_1 := hE9; have hE112 := hE9.step hw111 (mem_ob (.inl rfl)); have hB113 := hw111.blk hB2 (nmem2 hA5.symm hA6.symm); obtain ⟨pa_1, pc_1, po_1, hC_1, hp_1⟩ := hto1; have hq_1 := fr_trans (.inl rfl) hev_1 hp_1; have hA_b3_1 := ap_ob hA6.symm hlt_b3_1 hp_1
       have hAJN_1 : Apart (some cb) po_1 := fun g h1 h2 => by cases h1; exact hC_1.ne cb h2 rfl
       refine wl_nil (nrm_block (body_end0 rfl ?_)); exact ⟨rfl, hE112, kx1, ⟨_, _, _, hC_1.evo0 (Evo.refl [] w110), hq_1⟩, hkx1, hkl1, hkn1⟩
      ·skip
       refine cw_seq ?_; refine cw_region ?_; refine wl_val rfl (ex_eql rfl rfl) ?_; refine wl_a ?_; refine wl_nil (nrm_then ?_); refine cw_if rfl (fun hc63 => ?_) (fun hc63 => ?_)
       ·skip
        have hkl : t.kids.length = 1 := by have := hn.grp (by omega); omega
        have hky := single_of hkl; have he1 := eszs_one hkl; have he7 := esz7 (t := t) (by omega); have hcp := hcap (by omega)
        have hj' : 0 < t.kids.length := by omega
        obtain ⟨b1, o1, vs1, ha1, hb1, hvl1, hc1, hrk⟩ := e1 0 hj'; obtain ⟨m1, ra1, rc1, ka1, kc1, rfl, rfl, -⟩ := id hrk.get; refine cw_seq ?_; refine cw_region ?_; refine wl_m ?_; refine wl_val rfl (ex_fieldAddr rfl Try.fld25_6) ?_; refine wl_val rfl (ex_load1 rfl Try.agg3 (cell_nth hB2 rfl)) ?_; refine wl_val rfl (ex_mul_i64 rfl rfl (by omega) (by omega)) ?_; refine wl_val rfl (ex_build (vs := [(0, _), (3, _)]) Try.build44 rfl (cells := [_, _, _, _, _]) rfl) ?_; refine wl_call1 (vs := [_, _]) Try.goes31 rfl (put_ok (rs := []) (hC.evo0 hE10) rnil0 (by omega)) rfl ?_; rintro _ w114 ⟨rfl, hw115, hto1⟩; have hlt_b3_1 := (Lt.blk hB2); have hev_1 := hE9; have hE116 := hE9.step hw115 (mem_ob (.inl rfl)); have hB117 := hw115.blk hB2 (nmem2 hA5.symm hA6.symm); obtain ⟨pa_1, pc_1, po_1, hC_1, hp_1⟩ := hto1; have hq_1 := fr_trans (.inl rfl) hev_1 hp_1; have hA_b3_1 := ap_ob hA6.symm hlt_b3_1 hp_1
        have hAJN_1 : Apart (some cb) po_1 := fun g h1 h2 => by cases h1; exact hC_1.ne cb h2 rfl
        refine wl_nil (nrm_then ?_); refine cw_seq ?_; refine cw_region ?_; refine wl_m ?_; refine wl_val rfl (ex_fieldAddr rfl Try.fld25_8) ?_; refine wl_val rfl (ex_load1 rfl Try.agg23 (cell_nth hB117 rfl)) ?_
        refine wl_val rfl (ex_indexAddrZ (n := 0) (by rw [ha1]; rfl) rfl rfl Try.elem23 (by omega)) ?_
        refine wl_val rfl (ex_loadA rfl Try.agg25 Try.size25 (vs := [_, _, _, _, _, _, _, _, _]) rfl (hc1.evo hE116 hb1)) ?_; have hZw : ∀ z, z ∈ Z → z < (w114).heap.size := fun z hz => Nat.lt_of_lt_of_le (hZ z hz) (hE116).size
        refine wl_call1 (vs := [_, _]) Try.goes16 rfl (ih (t := t.kids[0]) (hC_1.evo0 (Evo.refl [] w114)) (RRx.step hrk hE116 (mem_ob hq_1) hXlt) (hg.kid _ (List.getElem_mem hj')) (by simp only [List.length_append, List.length_cons, List.length_nil]; omega) hZw) rfl ?_
        rintro _ w118 ⟨-, hw119, kx2, hto2, hkx2, hkl2, hkn2⟩; have hlt_b3_2 := (Lt.blk hB117); have hev_2 := hE116; have hE120 := hE116.step hw119 (mem_ob hq_1); have hB121 := hw119.blk hB117 (nmem2 hA5.symm hA_b3_1); obtain ⟨pa_2, pc_2, po_2, hC_2, hp_2⟩ := hto2; have hq_2 := fr_trans hq_1 hev_2 hp_2; have hA_b3_2 := ap_ob hA_b3_1 hlt_b3_2 hp_2
        have hAJN_2 : Apart (some cb) po_2 := fun g h1 h2 => by cases h1; exact hC_2.ne cb h2 rfl
        refine wl_nil (nrm_then ?_); refine cw_region ?_; refine wl_m ?_; refine wl_val rfl (ex_fieldAddr rfl Try.fld25_6) ?_; refine wl_val rfl (ex_load1 rfl Try.agg3 (cell_nth hB121 rfl)) ?_; refine wl_val rfl (ex_mul_i64 rfl rfl (by omega) (by omega)) ?_; refine wl_val rfl (ex_add_i64 rfl rfl (by omega) (by omega)) ?_; refine wl_val rfl (ex_build (vs := [(0, _), (3, _)]) Try.build44 rfl (cells := [_, _, _, _, _]) rfl) ?_
        refine wl_call1 (vs := [_, _]) Try.goes31 rfl (put_ok (rs := []) (hC_2.evo0 (Evo.refl [] w118)) rnil0 (by simp only [List.length_append, List.length_cons, List.length_nil]; omega)) rfl ?_
        rintro _ w122 ⟨rfl, hw123, hto3⟩; have hlt_b3_3 := (Lt.blk hB121); have hev_3 := hE120; have hE124 := hE120.step hw123 (mem_ob hq_2); have hB125 := hw123.blk hB121 (nmem2 hA5.symm hA_b3_2); obtain ⟨pa_3, pc_3, po_3, hC_3, hp_3⟩ := hto3; have hq_3 := fr_trans hq_2 hev_3 hp_3; have hA_b3_3 := ap_ob hA_b3_2 hlt_b3_3 hp_3
        have hAJN_3 : Apart (some cb) po_3 := fun g h1 h2 => by cases h1; exact hC_3.ne cb h2 rfl
        refine wl_nil (nrm_block (body_end0 rfl ?_)); refine ⟨rfl, hE124, [(⟨4, (es.length : Nat) + 1, 0, 2 * t.cap, []⟩, .slice none 0 0)] ++ (kx2 ++ [(⟨4, ((es.length + 1 + kx2.length : Nat) : Int) + 1, 0, 2 * t.cap + 1, []⟩, .slice none 0 0)]), ⟨_, _, _, (hC_3.evo0 (Evo.refl [] w122)).cast ?_, hq_3⟩, ?_, ?_, ?_⟩
        · simp [List.append_assoc] <;> omega
        · have h := codes_grp (a := es.length) (k := kx2.map (·.1)) (by omega) hky (by have h := hkx2; rwa [List.length_append] at h)
          rw [List.length_map] at h
          rw [List.map_append, List.map_append]; exact h
        · simp only [List.length_append, List.length_cons, List.length_nil]; omega
        · exact nice_app (nice_one ⟨by simp, by show (0 : Int) ≤ (es.length : Nat) + 1; omega, Int.le_refl _, Nat.zero_le _⟩) (nice_app hkn2 (nice_one ⟨by simp, by show (0 : Int) ≤ ((es.length + 1 + kx2.length : Nat) : Int) + 1; omega, Int.le_refl _, Nat.zero_le _⟩))
       ·skip
        refine cw_seq ?_; refine cw_region ?_; refine wl_val rfl (ex_eql rfl rfl) ?_; refine wl_a ?_; refine wl_nil (nrm_then ?_); refine cw_if rfl (fun hc84 => ?_) (fun hc84 => ?_)
        ·skip
         refine cw_region ?_; refine wl_m ?_; refine wl_val rfl (ex_build (vs := [(0, _)]) Try.build44 rfl (cells := [_, _, _, _, _]) rfl) ?_; refine wl_call1 (vs := [_, _]) Try.goes31 rfl (put_ok (rs := []) (hC.evo0 hE10) rnil0 (by omega)) rfl ?_; rintro _ w126 ⟨rfl, hw127, hto1⟩; have hlt_b3_1 := (Lt.blk hB2); have hev_1 := hE9; have hE128 := hE9.step hw127 (mem_ob (.inl rfl)); have hB129 := hw127.blk hB2 (nmem2 hA5.symm hA6.symm); obtain ⟨pa_1, pc_1, po_1, hC_1, hp_1⟩ := hto1; have hq_1 := fr_trans (.inl rfl) hev_1 hp_1; have hA_b3_1 := ap_ob hA6.symm hlt_b3_1 hp_1
         have hAJN_1 : Apart (some cb) po_1 := fun g h1 h2 => by cases h1; exact hC_1.ne cb h2 rfl
         refine wl_nil (nrm_block (body_end0 rfl ?_))
         refine ⟨rfl, hE128, [(⟨5, (es.length : Nat) + 1, 0, 0, []⟩, .slice none 0 0)], ⟨_, _, _, hC_1.evo0 (Evo.refl [] w126), hq_1⟩, ?_, by have := esz0 (t := t) (by omega); show 1 ≤ t.esz; omega, nice_one ⟨by simp, by show (0 : Int) ≤ (es.length : Nat) + 1; omega, Int.le_refl _, Nat.zero_le _⟩⟩
         have h := codes_leaf (x := t) (a := es.length) (by omega)
         have e : leafIn t.kind es.length = ⟨5, (es.length : Int) + 1, 0, 0, []⟩ := by rw [show t.kind = 8 from by omega]; rfl
         rw [e] at h; exact h
        ·skip
         refine cw_seq ?_; refine cw_region ?_; refine wl_val rfl (ex_eql rfl rfl) ?_; refine wl_a ?_; refine wl_nil (nrm_then ?_); refine cw_if rfl (fun hc89 => ?_) (fun hc89 => ?_)
         ·skip
          refine cw_region ?_; refine wl_m ?_; refine wl_val rfl (ex_build (vs := [(0, _)]) Try.build44 rfl (cells := [_, _, _, _, _]) rfl) ?_; refine wl_call1 (vs := [_, _]) Try.goes31 rfl (put_ok (rs := []) (hC.evo0 hE10) rnil0 (by omega)) rfl ?_; rintro _ w130 ⟨rfl, hw131, hto1⟩; have hlt_b3_1 := (Lt.blk hB2); have hev_1 := hE9; have hE132 := hE9.step hw131 (mem_ob (.inl rfl)); have hB133 := hw131.blk hB2 (nmem2 hA5.symm hA6.symm); obtain ⟨pa_1, pc_1, po_1, hC_1, hp_1⟩ := hto1; have hq_1 := fr_trans (.inl rfl) hev_1 hp_1; have hA_b3_1 := ap_ob hA6.symm hlt_b3_1 hp_1
          have hAJN_1 : Apart (some cb) po_1 := fun g h1 h2 => by cases h1; exact hC_1.ne cb h2 rfl
          refine wl_nil (nrm_block (body_end0 rfl ?_))
          refine ⟨rfl, hE132, [(⟨6, (es.length : Nat) + 1, 0, 0, []⟩, .slice none 0 0)], ⟨_, _, _, hC_1.evo0 (Evo.refl [] w130), hq_1⟩, ?_, by have := esz0 (t := t) (by omega); show 1 ≤ t.esz; omega, nice_one ⟨by simp, by show (0 : Int) ≤ (es.length : Nat) + 1; omega, Int.le_refl _, Nat.zero_le _⟩⟩
          have h := codes_leaf (x := t) (a := es.length) (by omega)
          have e : leafIn t.kind es.length = ⟨6, (es.length : Int) + 1, 0, 0, []⟩ := by rw [show t.kind = 9 from by omega]; rfl
          rw [e] at h; exact h
         ·skip
          refine cw_seq ?_; refine cw_region ?_; refine wl_val rfl (ex_eql rfl rfl) ?_; refine wl_a ?_; refine wl_nil (nrm_then ?_); refine cw_if rfl (fun hc94 => ?_) (fun hc94 => ?_)
          ·skip
           refine cw_region ?_; refine wl_m ?_; refine wl_val rfl (ex_build (vs := [(0, _)]) Try.build44 rfl (cells := [_, _, _, _, _]) rfl) ?_; refine wl_call1 (vs := [_, _]) Try.goes31 rfl (put_ok (rs := []) (hC.evo0 hE10) rnil0 (by omega)) rfl ?_; rintro _ w134 ⟨rfl, hw135, hto1⟩; have hlt_b3_1 := (Lt.blk hB2); have hev_1 := hE9; have hE136 := hE9.step hw135 (mem_ob (.inl rfl)); have hB137 := hw135.blk hB2 (nmem2 hA5.symm hA6.symm); obtain ⟨pa_1, pc_1, po_1, hC_1, hp_1⟩ := hto1; have hq_1 := fr_trans (.inl rfl) hev_1 hp_1; have hA_b3_1 := ap_ob hA6.symm hlt_b3_1 hp_1
           have hAJN_1 : Apart (some cb) po_1 := fun g h1 h2 => by cases h1; exact hC_1.ne cb h2 rfl
           refine wl_nil (nrm_block (body_end0 rfl ?_))
           refine ⟨rfl, hE136, [(⟨7, (es.length : Nat) + 1, 0, 0, []⟩, .slice none 0 0)], ⟨_, _, _, hC_1.evo0 (Evo.refl [] w134), hq_1⟩, ?_, by have := esz0 (t := t) (by omega); show 1 ≤ t.esz; omega, nice_one ⟨by simp, by show (0 : Int) ≤ (es.length : Nat) + 1; omega, Int.le_refl _, Nat.zero_le _⟩⟩
           have h := codes_leaf (x := t) (a := es.length) (by omega)
           have e : leafIn t.kind es.length = ⟨7, (es.length : Int) + 1, 0, 0, []⟩ := by rw [show t.kind = 10 from by omega]; rfl
           rw [e] at h; exact h
          ·skip
           refine cw_seq ?_; refine cw_region ?_; refine wl_val rfl (ex_eql rfl rfl) ?_; refine wl_a ?_; refine wl_nil (nrm_then ?_); refine cw_if rfl (fun hc99 => ?_) (fun hc99 => ?_)
           ·skip
            refine cw_region ?_; refine wl_m ?_; refine wl_val rfl (ex_build (vs := [(0, _)]) Try.build44 rfl (cells := [_, _, _, _, _]) rfl) ?_; refine wl_call1 (vs := [_, _]) Try.goes31 rfl (put_ok (rs := []) (hC.evo0 hE10) rnil0 (by omega)) rfl ?_; rintro _ w138 ⟨rfl, hw139, hto1⟩; have hlt_b3_1 := (Lt.blk hB2); have hev_1 := hE9; have hE140 := hE9.step hw139 (mem_ob (.inl rfl)); have hB141 := hw139.blk hB2 (nmem2 hA5.symm hA6.symm); obtain ⟨pa_1, pc_1, po_1, hC_1, hp_1⟩ := hto1; have hq_1 := fr_trans (.inl rfl) hev_1 hp_1; have hA_b3_1 := ap_ob hA6.symm hlt_b3_1 hp_1
            have hAJN_1 : Apart (some cb) po_1 := fun g h1 h2 => by cases h1; exact hC_1.ne cb h2 rfl
            refine wl_nil (nrm_block (body_end0 rfl ?_))
            refine ⟨rfl, hE140, [(⟨8, (es.length : Nat) + 1, 0, 0, []⟩, .slice none 0 0)], ⟨_, _, _, hC_1.evo0 (Evo.refl [] w138), hq_1⟩, ?_, by have := esz0 (t := t) (by omega); show 1 ≤ t.esz; omega, nice_one ⟨by simp, by show (0 : Int) ≤ (es.length : Nat) + 1; omega, Int.le_refl _, Nat.zero_le _⟩⟩
            have h := codes_leaf (x := t) (a := es.length) (by omega)
            have e : leafIn t.kind es.length = ⟨8, (es.length : Int) + 1, 0, 0, []⟩ := by rw [show t.kind = 11 from by omega]; rfl
            rw [e] at h; exact h
           ·skip
            refine cw_seq ?_; refine cw_region ?_; refine wl_val rfl (ex_eql rfl rfl) ?_; refine wl_a ?_; refine wl_nil (nrm_then ?_); refine cw_if rfl (fun hc104 => ?_) (fun hc104 => ?_)
            ·skip
             refine cw_region ?_; refine wl_m ?_; refine wl_val rfl (ex_build (vs := [(0, _)]) Try.build44 rfl (cells := [_, _, _, _, _]) rfl) ?_; refine wl_call1 (vs := [_, _]) Try.goes31 rfl (put_ok (rs := []) (hC.evo0 hE10) rnil0 (by omega)) rfl ?_; rintro _ w142 ⟨rfl, hw143, hto1⟩; have hlt_b3_1 := (Lt.blk hB2); have hev_1 := hE9; have hE144 := hE9.step hw143 (mem_ob (.inl rfl)); have hB145 := hw143.blk hB2 (nmem2 hA5.symm hA6.symm); obtain ⟨pa_1, pc_1, po_1, hC_1, hp_1⟩ := hto1; have hq_1 := fr_trans (.inl rfl) hev_1 hp_1; have hA_b3_1 := ap_ob hA6.symm hlt_b3_1 hp_1
             have hAJN_1 : Apart (some cb) po_1 := fun g h1 h2 => by cases h1; exact hC_1.ne cb h2 rfl
             refine wl_nil (nrm_block (body_end0 rfl ?_))
             refine ⟨rfl, hE144, [(⟨9, (es.length : Nat) + 1, 0, 0, []⟩, .slice none 0 0)], ⟨_, _, _, hC_1.evo0 (Evo.refl [] w142), hq_1⟩, ?_, by have := esz0 (t := t) (by omega); show 1 ≤ t.esz; omega, nice_one ⟨by simp, by show (0 : Int) ≤ (es.length : Nat) + 1; omega, Int.le_refl _, Nat.zero_le _⟩⟩
             have h := codes_leaf (x := t) (a := es.length) (by omega)
             have e : leafIn t.kind es.length = ⟨9, (es.length : Int) + 1, 0, 0, []⟩ := by rw [show t.kind = 12 from by omega]; rfl
             rw [e] at h; exact h
            ·skip
             refine cw_seq ?_; refine cw_region ?_; refine wl_val rfl (ex_eql rfl rfl) ?_; refine wl_a ?_; refine wl_nil (nrm_then ?_); refine cw_if rfl (fun hc109 => ?_) (fun hc109 => ?_)
             ·skip
              refine cw_region ?_; refine wl_m ?_; refine wl_val rfl (ex_build (vs := [(0, _), (3, _)]) Try.build44 rfl (cells := [_, _, _, _, _]) rfl) ?_; refine wl_call1 (vs := [_, _]) Try.goes31 rfl (put_ok (rs := []) (hC.evo0 hE10) rnil0 (by omega)) rfl ?_; rintro _ w146 ⟨rfl, hw147, hto1⟩; have hlt_b3_1 := (Lt.blk hB2); have hev_1 := hE9; have hE148 := hE9.step hw147 (mem_ob (.inl rfl)); have hB149 := hw147.blk hB2 (nmem2 hA5.symm hA6.symm); obtain ⟨pa_1, pc_1, po_1, hC_1, hp_1⟩ := hto1; have hq_1 := fr_trans (.inl rfl) hev_1 hp_1; have hA_b3_1 := ap_ob hA6.symm hlt_b3_1 hp_1
              have hAJN_1 : Apart (some cb) po_1 := fun g h1 h2 => by cases h1; exact hC_1.ne cb h2 rfl
              refine wl_nil (nrm_block (body_end0 rfl ?_))
              refine ⟨rfl, hE148, [(⟨9, (es.length : Nat) + 1, 0, 1, []⟩, .slice none 0 0)], ⟨_, _, _, hC_1.evo0 (Evo.refl [] w146), hq_1⟩, ?_, by have := esz0 (t := t) (by omega); show 1 ≤ t.esz; omega, nice_one ⟨by simp, by show (0 : Int) ≤ (es.length : Nat) + 1; omega, Int.le_refl _, Nat.zero_le _⟩⟩
              have h := codes_leaf (x := t) (a := es.length) (by omega)
              have e : leafIn t.kind es.length = ⟨9, (es.length : Int) + 1, 0, 1, []⟩ := by rw [show t.kind = 13 from by omega]; rfl
              rw [e] at h; exact h
             ·skip
              refine cw_skip (nrm_block (body_end0 rfl ?_))
              have h1 := hn.kind1; have h2 := hn.kind2
              exact ⟨rfl, hE9, [], ⟨a, c, ob, (by rw [List.append_nil]; exact hC.evo0 hE10), .inl rfl⟩, codes_empty (by omega), Nat.zero_le _, fun _ h => by cases h⟩
theorem code_ok : ∀ {n : Nat} {w : World} {cb : Nat} {es : List Iv} {a : Option Addr} {c : Nat} {ob : Option Nat} {Z : List Nat} {vs : List Value} {t : Rx} (hC : CdAt w cb es a c ob Z) (hx : RRx n (cb :: ob.toList) w vs t) (hg : Good t) (hl : es.length + t.esz ≤ 100000) (hZ : ∀ z, z ∈ Z → z < w.heap.size), Calls Try.prog 16 #[.pointer (some ⟨cb, 0, none⟩), .agg vs.toArray] w (Ret fun v w' => v = .tuple #[] ∧ Evo (cb :: ob.toList) w w' ∧ ∃ new, CdTo w w' cb ob (es ++ new) Z ∧ Codes t es.length (new.map (·.1)) ∧ new.length ≤ t.esz ∧ ∀ e, e ∈ new → Nice e.1)
  | 0, w, cb, es, a, c, ob, Z, vs, t, hC, hx, hg, hl, hZ => hx.elim
  | n + 1, w, cb, es, a, c, ob, Z, vs, t, hC, hx, hg, hl, hZ => code_step (n := n) (fun hC hx hg hl hZ => code_ok hC hx hg hl hZ) hC hx hg hl hZ
def RIn : Rel In := fun X w vs c => ∃ vr, vs = [iv c.op, iv c.out, iv c.alt, iv c.arg, vr] ∧ RSl 2 RRg X w vr c.rs ∧ c.rs.length ≤ 1048576
theorem RIn.pers : RIn.Pers := fun _ _ _ _ _ he ⟨v, h1, h2, h3⟩ => ⟨v, h1, RSl.evo RRg.pers he h2, h3⟩
theorem RIn.fresh : RIn.Fresh := fun _ _ _ _ _ hy ⟨v, h1, h2, h3⟩ => ⟨v, h1, RSl.fresh (by decide) RRg.fresh hy h2, h3⟩
def RProg : Rel (List In) := fun X w vs l => ∃ vi g nm, vs = [vi, iv 0, g, nm] ∧ RSl 5 RIn X w vi l ∧ l.length ≤ 10000 ∧ g.oneCell' = true ∧ nm.oneCell' = true
theorem RProg.pers : RProg.Pers := fun _ _ _ _ _ he ⟨v, g, nm, h1, h2, h3⟩ => ⟨v, g, nm, h1, RSl.evo RIn.pers he h2, h3⟩
theorem RProg.fresh : RProg.Fresh := fun _ _ _ _ _ hy ⟨v, g, nm, h1, h2, h3⟩ => ⟨v, g, nm, h1, RSl.fresh (by decide) RIn.fresh hy h2, h3⟩
theorem flat_rows (es : List Iv) : (es.map Iv.cells).flatten = flat es := by unfold flat; rw [List.flatMap_def]
theorem CdAt.prog {w : World} {cb : Nat} {es : List Iv} {a : Option Addr} {c : Nat} {ob : Option Nat} {Z : List Nat} (h : CdAt w cb es a c ob Z) (hn : ∀ e, e ∈ es → e.1.rs.length ≤ 1048576) : RSl 5 RIn [] w (.slice a es.length c) (es.map (·.1)) := by
  have h1 := h.own
  rw [← flat_rows] at h1
  refine RSl.ofOwn (rows := es.map Iv.cells) h1 ⟨by simp, fun k hk hk' => ?_⟩ (by simp) (fun _ _ => by simp)
  have hk2 : k < es.length := by simpa using hk
  simp only [List.getElem_map]
  exact ⟨rfl, _, rfl, rrg_step (h.rs _ (List.getElem_mem hk2)) ((Evo.refl [] w).any _) (fun y hy => by cases hy), hn _ (List.getElem_mem hk2)⟩
theorem prog_of {X : List Nat} {w : World} {es : List Iv} {a : Option Addr} {n c : Nat} {ob : Option Nat} (h1 : OwnS w 44 5 a n c (flat es) ob) (hx : ∀ g, ob = some g → g ∉ X) (hr : ∀ e, e ∈ es → RSl 2 RRg X w e.2 e.1.rs) (hn : ∀ e, e ∈ es → e.1.rs.length ≤ 1048576) : RSl 5 RIn X w (.slice a n c) (es.map (·.1)) := by
  have hl := h1.length
  rw [flat_length] at hl
  rw [← flat_rows] at h1
  refine RSl.ofOwn (rows := es.map Iv.cells) h1 ⟨by simp, fun k hk hk' => ?_⟩ (by rw [List.length_map]; omega) hx
  have hk2 : k < es.length := by simpa using hk
  simp only [List.getElem_map]
  exact ⟨rfl, _, rfl, hr _ (List.getElem_mem hk2), hn _ (List.getElem_mem hk2)⟩
theorem progOk_of {t : Rx} {new : List Iv} (hg : Good t) (hc : Codes t ([] : List Iv).length (new.map (·.1))) (hn : ∀ e, e ∈ new → Nice e.1) {v : Value} : ProgOk t ((new ++ [((⟨1, 0, 0, 0, []⟩ : In), v)]).map (·.1)) new.length := by
  have e : (new ++ [((⟨1, 0, 0, 0, []⟩ : In), v)]).map (·.1) = new.map (·.1) ++ [⟨1, 0, 0, 0, []⟩] := by simp
  rw [e]
  refine ⟨by simp, by simp, fun p c hp hl => ?_, ?_, hg⟩
  · rw [List.getElem?_append_left (by simpa using hp)] at hl
    obtain ⟨x, hx, rfl⟩ := List.mem_map.1 (List.mem_of_getElem? hl)
    exact hn x hx
  · have := hc (new.map (·.1) ++ [⟨1, 0, 0, 0, []⟩]) (fun i hi => by rw [List.length_nil, Nat.zero_add, List.getElem?_append_left hi, List.getElem?_eq_getElem hi])
    rwa [List.length_nil, Nat.zero_add, List.length_map] at this
theorem CdAt.new {w : World} {cb : Nat} {Z : List Nat} (h : w.heap[cb]? = some (.cells #[.slice none 0 0] 41 (0, 0))) : CdAt w cb [] none 0 none Z := ⟨h, OwnS.nil _ _ _, fun g hg => (by cases hg), fun e he => (by cases he)⟩
theorem SizeIs.zero {t : Rx} {r : Int} (h : SizeIs t r) (h0 : r = 0) : ¬ t.Ok := fun hk => by have := h.1 hk; omega
theorem SizeIs.big {t : Rx} {r : Int} (h : SizeIs t r) (hk : t.Ok) (h0 : 10000 < r) : 10000 < t.esz + 1 := by have := h.1 hk; omega
theorem SizeIs.fits {t : Rx} {r : Int} (h : SizeIs t r) (hk : t.Ok) (h0 : ¬ 10000 < r) : t.esz + 1 ≤ 10000 := by have := h.1 hk; omega
theorem size_lim {t : Rx} (h : t.esz + 1 ≤ 10000) : ([] : List Iv).length + t.esz ≤ 100000 := by rw [List.length_nil]; omega
theorem size_lt {t : Rx} (h : t.esz + 1 ≤ 10000) : t.esz ≤ 9999 := by omega
def Shp (ps : List Value) : Prop := ∃ a n c g nm, ps = [.slice a n c, iv 0, g, nm] ∧ g.oneCell' = true ∧ nm.oneCell' = true
def CompIs (X : List Nat) (t : Rx) (w' : World) (ps : List Value) (e : Int) : Prop := (¬ t.Ok ∧ e = 2 ∧ Shp ps) ∨ (t.Ok ∧ 10000 < t.esz + 1 ∧ e = 90 ∧ Shp ps) ∨ (t.Ok ∧ t.esz + 1 ≤ 10000 ∧ e = 0 ∧ ∃ l n, RProg X w' ps l ∧ ProgOk t l n)
set_option maxHeartbeats 4000000 in
theorem compile_ok {X : List Nat} {n : Nat} {w : World} {vs : List Value} {t : Rx} (hX : ∀ b, b ∈ X → b < w.heap.size) (hx : RRx n [] w vs t) :
    Calls Try.prog 6 #[.agg vs.toArray] w (Ret fun v w' => Evo [] w w' ∧ ∃ ps e, v = .tuple #[.agg ps.toArray, iv e] ∧ CompIs X t w' ps e) := by
  have hx0 := hx; obtain ⟨m, ra, rc, ka, kc, hm, rfl, hrg, hk, bl1, bl2, bl3⟩ := hx.get; refine calls_of_cw (N := 28) Try.func6 rfl rfl rfl ?_; refine cw_seq ?_; refine cw_region ?_; refine wl_boxA rfl rfl fun b1 w1 hB2 hs3 hw4 => ?_; have hsz_b1 := hs3; have hG5 := Ge.new (Evo.refl [] w) hs3; have hE6 := (Evo.refl [] w).then hw4; refine wl_alloc rfl Try.zero29 fun b2 w7 hB8 hs9 hw10 => ?_; have hsz_b2 := hs9; have hA11 := Apart.new (Lt.blk hB2) hs9; have hG12 := Ge.new hE6 hs9; have hE13 := hE6.then hw10; have hB14 := hw10.blk0 hB2; refine wl_a ?_; refine wl_nil (nrm_then ?_); refine cw_seq ?_; refine cw_region ?_; refine wl_val rfl (ex_loadBlk rfl Try.agg25 Try.size25 hB14 rfl) ?_; refine wl_call1 (vs := [_]) Try.goes15 rfl (Size_ok (RRx.pers _ _ _ _ _ _ hE13 hx0)) rfl ?_; rintro _ w15 ⟨sz, rfl, hsz, hw16⟩; have hE17 := hE13.then hw16; have hB18 := hw16.blk0 hB14; have hB19 := hw16.blk0 hB8; refine wl_a ?_; refine wl_nil (nrm_then ?_); refine cw_seq ?_; refine cw_seq ?_; refine cw_region ?_; refine wl_m ?_; refine wl_val rfl (ex_eql rfl rfl) ?_; refine wl_nil (nrm_then ?_); refine cw_if rfl (fun hc10 => ?_) (fun hc10 => ?_)
  ·skip
   refine cw_seq ?_; refine cw_region ?_; refine wl_val rfl (ex_build (vs := []) Try.build29 rfl (cells := [_, _, _, _]) rfl) ?_; refine wl_storeBlk rfl rfl Try.size29 hB19 rfl rfl ⟨by first | rfl | assumption, by first | rfl | assumption, by first | rfl | assumption, by first | rfl | assumption, trivial⟩ fun w20 hB21 hw22 => ?_; have hE23 := hE17.step hw22 hG12.mem1; have hB24 := hw22.blk hB18 hA11.nmem1
   try simp only [List.setIfInBounds_toArray, List.set_cons_zero, List.set_cons_succ, Nat.reduceAdd, Nat.zero_add, Nat.add_zero] at hB21
   refine wl_a ?_; refine wl_nil (nrm_then ?_); refine cw_ret (ret_then (body_retC2 rfl (ResOk.cellA rfl Try.agg29 Try.size29 hB21 rfl) (ResOk.tmp rfl) ?_)); exact ⟨hE23, [_, _, _, _], 2, rfl, .inl ⟨hsz.zero hc10, rfl, _, _, _, _, _, rfl, rfl, rfl⟩⟩
  ·skip
   refine cw_skip (nrm_then ?_); refine cw_seq ?_; refine cw_seq ?_; refine cw_region ?_; refine wl_m ?_; refine wl_val rfl (ex_gtr rfl rfl) ?_; refine wl_nil (nrm_then ?_); refine cw_if rfl (fun hc13 => ?_) (fun hc13 => ?_)
   ·skip
    refine cw_seq ?_; refine cw_region ?_; refine wl_val rfl (ex_build (vs := []) Try.build29 rfl (cells := [_, _, _, _]) rfl) ?_; refine wl_storeBlk rfl rfl Try.size29 hB19 rfl rfl ⟨by first | rfl | assumption, by first | rfl | assumption, by first | rfl | assumption, by first | rfl | assumption, trivial⟩ fun w25 hB26 hw27 => ?_; have hE28 := hE17.step hw27 hG12.mem1; have hB29 := hw27.blk hB18 hA11.nmem1
    try simp only [List.setIfInBounds_toArray, List.set_cons_zero, List.set_cons_succ, Nat.reduceAdd, Nat.zero_add, Nat.add_zero] at hB26
    refine wl_a ?_; refine wl_nil (nrm_then ?_); refine cw_ret (ret_then (body_retC2 rfl (ResOk.cellA rfl Try.agg29 Try.size29 hB26 rfl) (ResOk.tmp rfl) ?_)); have hok : t.Ok := Classical.byContradiction fun h => hc10 (hsz.2 h); exact ⟨hE28, [_, _, _, _], 90, rfl, .inr (.inl ⟨hok, hsz.big hok hc13, rfl, _, _, _, _, _, rfl, rfl, rfl⟩)⟩
   ·skip
    have hok : t.Ok := Classical.byContradiction fun h => hc10 (hsz.2 h); have hszE := hsz.fits hok hc13; have hsz4 := size_lt hszE; refine cw_skip (nrm_then ?_); refine cw_seq ?_; refine cw_region ?_; refine wl_alloc rfl Try.zero41 fun cb w30 hB31 hs32 hw33 => ?_; have hsz_cb := hs32; have hA34 := Apart.new (Lt.blk hB18) hs32; have hA35 := Apart.new (Lt.blk hB19) hs32; have hG36 := Ge.new hE17 hs32; have hE37 := hE17.then hw33; have hB38 := hw33.blk0 hB18; have hB39 := hw33.blk0 hB19; refine wl_nil (nrm_then ?_); refine cw_seq ?_; refine cw_region ?_; refine wl_val rfl (ex_loadBlk rfl Try.agg25 Try.size25 hB38 rfl) ?_
    refine wl_call1 (vs := [_, _]) Try.goes16 rfl (code_ok (CdAt.new (Z := X ++ [b2]) hB31) (RRx.step hx0 hE37 hG36.mem1 (fun b hb => by cases hb)) hok.good (size_lim hszE) (fun z hz => by rcases List.mem_append.1 hz with e | e; exact Nat.lt_of_lt_of_le (hX z e) (hE37).size; (rw [List.mem_singleton.1 e]; exact blk_lt hB39))) rfl ?_
    rintro _ w40 ⟨-, hw41, new, hto, hcodes, hlen, hnice⟩; have hltb2 := (Lt.blk hB39); have hltb1 := (Lt.blk hB38); have hgcb := hG36; have hev16 := hE37; have hE42 := hE37.step hw41 (hG36.mem1); have hB43 := hw41.blk hB38 (hA34.nmem1); have hB44 := hw41.blk hB39 (hA35.nmem1); obtain ⟨pa, pc, po, hC0, hp1⟩ := hto; have hC1 := hC0.cast (List.nil_append _); have hgpo : Ge w po := ge_ob (Ge.nil _) hev16.size hp1; have hA2po := ap_ob (Apart.nil (some b2)) hltb2 hp1; have hA1po := ap_ob (Apart.nil (some b1)) hltb1 hp1
    have hAcN : Apart (some cb) po := fun g h1 h2 => by cases h1; exact hC1.ne cb h2 rfl
    refine wl_nil (nrm_then ?_); refine cw_seq ?_; refine cw_region ?_; refine wl_val rfl (ex_load1 rfl Try.agg41 (cell_nth hC1.blk rfl)) ?_; refine wl_val rfl (ex_build (vs := [(0, _)]) Try.build44 rfl (cells := [_, _, _, _, _]) rfl) ?_; refine wl_bslice (vs := [_]) rfl Try.slice41 rfl rfl rfl rfl fun b45 w46 hO47 hs48 hw49 => ?_; have hA50 := Apart.new (Lt.blk hB43) hs48; have hA51 := Apart.new (Lt.blk hB44) hs48; have hA52 := Apart.new (Lt.blk hC1.blk) hs48; have hA53 := Apart.new (Lt.own hC1.own) hs48; have hG54 := Ge.new hE42 hs48; have hG55 := Ge.new (Evo.refl (cb :: (po.toList ++ (X ++ [b2]))) w40) hs48; have hE56 := hE42.then hw49; have hE57 := (Evo.refl (cb :: (po.toList ++ (X ++ [b2]))) w40).then hw49; have hB58 := hw49.blk0 hB43; have hB59 := hw49.blk0 hB44; have hB60 := hw49.blk0 hC1.blk; have hO61 := hC1.own.evo0 hw49; refine wl_append rfl rfl rfl rfl Try.app41_41 hO61 (Src.ofOwn hO47 ⟨by first | rfl | assumption, by first | rfl | assumption, by first | rfl | assumption, by first | rfl | assumption, by first | rfl | assumption, trivial⟩) (by omega) fun a2 c2 w64 ob2 hO2 hw67 hob68 => ?_; have hA69 := hA1po.app (Lt.blk hB58) hob68; have hA70 := hA2po.app (Lt.blk hB59) hob68; have hA71 := hAcN.app (Lt.blk hB60) hob68; have hA72 := hA53.symm.app (Lt.own hO47) hob68; have hG73 := hgpo.app hE56 hob68; have hE74 := hE56.step hw67 hgpo.mem; have hE75 := hE57.step hw67 (fun y hy => .inl (List.mem_cons_of_mem _ (List.mem_append_left _ hy))); have hB76 := hw67.blk hB58 hA1po.nmem; have hB77 := hw67.blk hB59 hA2po.nmem; have hB78 := hw67.blk hB60 hAcN.nmem; have hO79 := hO47.evo hw67 hA53.symm.own; have hob2 := hob68; refine wl_store1 rfl rfl (by first | rfl | assumption) Try.size41 hB78 rfl fun w80 hB81 hw82 => ?_; have hE83 := hE74.step hw82 hgcb.mem1
    have hE84 := hE75.step hw82 (fun y hy => .inl (by rw [List.mem_singleton.1 hy]; exact List.mem_cons_self ..))
    have hB85 := hw82.blk hB76 hA34.nmem1; have hB86 := hw82.blk hB77 hA35.nmem1; have hO87 := hO79.evo hw82 hA52.symm.own1; have hO88 := hO2.evo hw82 hA71.symm.own1
    try simp only [List.setIfInBounds_toArray, List.set_cons_zero, List.set_cons_succ, Nat.reduceAdd, Nat.zero_add, Nat.add_zero] at hB81
    refine wl_nil (nrm_then ?_); refine cw_seq ?_; refine cw_region ?_; refine wl_val rfl (ex_loadBlk rfl Try.agg25 Try.size25 hB85 rfl) ?_; refine wl_call1 (vs := [_]) Try.goes17 rfl (groups_ok (RRx.pers _ _ _ _ _ _ hE83 hx0)) rfl ?_; rintro _ w89 ⟨na, nk, nc, rfl, hw90⟩; have hE91 := hE83.then hw90; have hE92 := hE84.then hw90; have hB93 := hw90.blk0 hB85; have hB94 := hw90.blk0 hB86; have hB95 := hw90.blk0 hB81; have hO96 := hO88.evo0 hw90; refine wl_a ?_; refine wl_nil (nrm_then ?_); refine cw_seq ?_; refine cw_region ?_; refine wl_val rfl (ex_load1 rfl Try.agg41 (cell_nth hB95 rfl)) ?_; refine wl_m ?_; refine wl_val rfl (ex_len_slice rfl Try.underlying27 rfl) ?_; refine wl_m ?_; refine wl_val rfl (ex_build (vs := [(0, _), (2, _), (3, _)]) Try.build29 rfl (cells := [_, _, _, _]) rfl) ?_; refine wl_storeBlk rfl rfl Try.size29 hB94 rfl rfl ⟨by first | rfl | assumption, by first | rfl | assumption, by first | rfl | assumption, by first | rfl | assumption, trivial⟩ fun w97 hB98 hw99 => ?_; have hE100 := hE91.step hw99 hG12.mem1; have hE101 := hE92.step hw99 (fun y hy => .inl (List.mem_cons_of_mem _ (List.mem_append_right _ (List.mem_append_right _ hy)))); have hB102 := hw99.blk hB93 hA11.nmem1; have hB103 := hw99.blk hB95 hA35.symm.nmem1; have hO104 := hO96.evo hw99 hA70.symm.own1
    try simp only [List.setIfInBounds_toArray, List.set_cons_zero, List.set_cons_succ, Nat.reduceAdd, Nat.zero_add, Nat.add_zero] at hB98
    refine wl_a ?_; refine wl_nil (nrm_then ?_); refine cw_ret (body_retC2 rfl (ResOk.cellA rfl Try.agg29 Try.size29 hB98 rfl) (ResOk.tmp rfl) ?_)
    have hnew : ∀ e, e ∈ new ++ [((⟨1, 0, 0, 0, []⟩ : In), Value.slice none 0 0)] → e.1.rs.length ≤ 1048576 := fun e he => by rcases List.mem_append.1 he with h | h; exact (hnice e h).2.2.2; rw [List.mem_singleton] at h; subst h; exact Nat.zero_le _
    have hrsA : ∀ e, e ∈ new ++ [((⟨1, 0, 0, 0, []⟩ : In), Value.slice none 0 0)] → RSl 2 RRg X w97 e.2 e.1.rs := fun e he => by rcases List.mem_append.1 he with h | h; exact rrg_step (hC1.rs e h) hE101 (fun y hy => .inl (List.mem_cons_of_mem _ (List.mem_append_right _ (List.mem_append_left _ hy)))); rw [List.mem_singleton] at h; subst h; exact rnil0
    have hown : OwnS w97 44 5 a2 (new.length + 1) c2 (flat (new ++ [((⟨1, 0, 0, 0, []⟩ : In), Value.slice none 0 0)])) ob2 := by rw [flat_append]; exact hO104
    have hlen0 := hsz4; refine ⟨hE100, [_, _, _, _], 0, rfl, .inr (.inr ⟨hok, hszE, rfl, (new ++ [((⟨1, 0, 0, 0, []⟩ : In), Value.slice none 0 0)]).map (·.1), new.length, ⟨_, _, _, rfl, ?_, ?_, rfl, rfl⟩, ?_⟩)⟩
    · have h := prog_of hown (fun g hg hm => by have h1 := hG73 g hg; have h2 := hX g hm; omega) hrsA hnew
      exact h
    · simp only [List.length_map, List.length_append, List.length_cons, List.length_nil]; exact Nat.le_trans (Nat.succ_le_succ (Nat.le_trans hlen hlen0)) (by decide)
    · exact progOk_of hok.good hcodes hnice
end Go.Proofs.Ytgboffefbpligaa
namespace Go.Proofs.Ytgboffefbpligaa
open Go.Proofs
open Go.W Go.RowKit
attribute [local irreducible] Decidable.decide
set_option linter.unusedSimpArgs false
set_option linter.unusedVariables false
theorem Try.agg26 : aggB Try.prog 26 = some false := by kernel_rfl
theorem Try.elem26 : elemB Try.prog 26 = some 5 := by kernel_rfl
theorem Try.elem65 : elemB Try.prog 65 = some 1 := by kernel_rfl
theorem Try.fld29_0 : fieldB Try.prog 29 0 = some 0 := by kernel_rfl
theorem Try.goes36 : Goes Try.prog 36 := ⟨_, Try.func36, by kernel_rfl, by kernel_rfl⟩
theorem Try.make65 : makeB Try.prog 65 = some (4, 1, 1, #[.bool false]) := by kernel_rfl
theorem Try.zero44 : zeroB Try.prog 44 = some #[.int .i64 0, .int .i64 0, .int .i64 0, .int .i64 0, .slice none 0 0] := by kernel_rfl
abbrev ivs (l : List Nat) : List Value := l.map fun p => iv (p : Nat)
def seenL (m : Nat) (out : List Nat) : List Value := (List.range m).map fun j => Value.bool (decide (j ∈ out))
theorem seenL_len (m : Nat) (out : List Nat) : (seenL m out).length = m := by simp [seenL]
theorem seenL_get {m k : Nat} (out : List Nat) (h : k < m) : (seenL m out)[k]? = some (Value.bool (decide (k ∈ out))) := by simp [seenL, h]
theorem seenL_zero (m : Nat) : zeros #[.bool false] m = seenL m [] := by
  apply List.ext_getElem?
  intro k
  by_cases h : k < m
  · rw [zeros_get (by decide) (by simpa using h), seenL_get _ h]; simp
  · rw [List.getElem?_eq_none (by rw [zeros_len]; simp; omega), List.getElem?_eq_none (by rw [seenL_len]; omega)]
theorem seenL_set {m k : Nat} (out : List Nat) (h : k < m) : (seenL m out).set k (.bool true) = seenL m (out ++ [k]) := by
  apply List.ext_getElem?
  intro j
  by_cases hj : j < m
  · rw [seenL_get _ hj, List.getElem?_set]
    by_cases e : k = j
    · subst e; rw [if_pos rfl, if_pos (by rw [seenL_len]; exact h)]; simp
    · rw [if_neg e, seenL_get _ hj]; simp [show ¬ j = k from fun h => e h.symm]
  · rw [List.getElem?_eq_none (by rw [List.length_set, seenL_len]; omega), List.getElem?_eq_none (by rw [seenL_len]; omega)]
structure SpG where
  k : Nat
  ls : List Nat
  ln : Nat
  la : Option Addr
  lc : Nat
  lo : Option Nat
  out : List Nat
  on : Nat
  oa : Option Addr
  oc : Nat
  oo : Option Nat
structure SpI (w wr : World) (l : List In) (s : ByteArray) (i : Nat) (init : List Nat) (ob : Option Nat) (sa : Option Addr) (sc : Nat) (so : Option Nat) (b4 : Nat) (cs : Array Value) (x : SpG) : Prop where
  si : SI l s i init x.ls x.k x.out
  ln : x.ln = x.ls.length
  on : x.on = x.out.length
  ol : OwnS wr 3 1 x.la x.ln x.lc (ivs x.ls) x.lo
  oo : OwnS wr 3 1 x.oa x.on x.oc (ivs x.out) x.oo
  os : OwnS wr 4 1 sa l.length sc (seenL l.length x.out) so
  bx : wr.heap[b4]? = some (.cells cs 29 (0, 0))
  a1 : Apart x.lo x.oo
  a2 : Apart x.lo so
  a3 : Apart x.oo so
  a4 : Apart (some b4) x.lo
  a5 : Apart (some b4) x.oo
  a6 : Apart (some b4) so
  hl : x.lo = ob ∨ ∃ g, x.lo = some g ∧ w.heap.size ≤ g
  go : Ge w x.oo
  gs : Ge w so
  nz : x.oa ≠ none
theorem own_some {w : World} {e : TypeId} {sz : Nat} {a : Option Addr} {n c : Nat} {xs : List Value} {ob : Option Nat} (h : OwnS w e sz a n c xs ob) (h0 : 0 < n) : a ≠ none := by
  obtain ⟨g, -, rfl, -⟩ := h.cells h0
  simp
theorem eps_at {l : List In} {s : ByteArray} {i p q : Nat} {c : In} (h : l[p]? = some c) : EpsB l s i p q ↔ GoesB s c i ∧ ((q : Int) = c.out ∨ (c.op = 3 ∧ (q : Int) = c.alt)) := by
  unfold EpsB
  constructor
  · rintro ⟨c', h1, h2⟩; rw [h] at h1; cases h1; exact h2
  · exact fun h2 => ⟨c, h, h2⟩
theorem goes_ops {s : ByteArray} {c : In} {i : Nat} (h : GoesB s c i) : 3 ≤ c.op ∧ c.op ≤ 10 := by unfold GoesB at h; omega
theorem ob_mem {w : World} {ob o : Option Nat} (h : o = ob ∨ ∃ g, o = some g ∧ w.heap.size ≤ g) : ∀ y, y ∈ o.toList → y ∈ ob.toList ∨ w.heap.size ≤ y := fun y hy => by
  rcases h with rfl | ⟨g, h1, h2⟩
  · exact .inl hy
  · rw [h1] at hy; simp at hy; right; omega
set_option maxHeartbeats 4000000 in
theorem spread_ok {w : World} {ps : List Value} {l : List In} {s : ByteArray} {i : Nat} {init : List Nat} {a : Option Addr} {c : Nat} {ob : Option Nat} (hp : RProg ob.toList w ps l) (hO : OwnS w 3 1 a init.length c (ivs init) ob) (hini : ∀ q, q ∈ init → q < l.length) (hR : Rng l) (hi : i ≤ s.size) (hs : s.size ≤ 1000000000) (hil : init.length ≤ 100000) :
    Calls Try.prog 18 #[.agg ps.toArray, .string s, .int .i64 (i : Nat), .slice a init.length c] w (Ret fun v w' => ∃ a' c' ob' out, v = .slice a' out.length c' ∧ a' ≠ none ∧ OwnS w' 3 1 a' out.length c' (ivs out) ob' ∧ Evo ob.toList w w' ∧ Ge w ob' ∧ (∀ q, q ∈ out ↔ EpsS l s i init q) ∧ out.length ≤ l.length ∧ ∀ q, q ∈ out → q < l.length) := by
  obtain ⟨vi, pg, nm, rfl, hpi, hpl, hpg, hpn⟩ := hp; have hpi0 := hpi; obtain ⟨pa, pc, rfl, hpc, e1⟩ := hpi; refine calls_of_cw (N := 72) Try.func18 rfl rfl rfl ?_; refine cw_seq ?_; refine cw_region ?_; refine wl_boxA rfl rfl fun b4 w1 hB2 hs3 hw4 => ?_; have hsz_b4 := hs3; have hA5 := Apart.new (Lt.own hO) hs3; have hG6 := Ge.new (Evo.refl ob.toList w) hs3; have hE7 := (Evo.refl ob.toList w).then hw4; have hO8 := hO.evo0 hw4; refine wl_a ?_; refine wl_nil (nrm_then ?_); refine cw_seq ?_; refine cw_region ?_; refine wl_val rfl (ex_fieldAddr rfl Try.fld29_0) ?_; refine wl_val rfl (ex_load1 rfl Try.agg26 (cell_nth hB2 rfl)) ?_; refine wl_val rfl (ex_len_slice rfl Try.underlying26 rfl) ?_; refine wl_make (len := l.length) (c := l.length) rfl rfl rfl Try.make65 (by rfl) (by rfl) (by omega) (by decide) (by omega) (by omega) fun sb w10 hS0 hs12 hw13 => ?_; have hA14 := Apart.new (Lt.own hO8) hs12; have hA15 := Apart.new (Lt.blk hB2) hs12; have hG16 := Ge.new hE7 hs12; have hE17 := hE7.then hw13; have hO18 := hO8.evo0 hw13; have hB19 := hw13.blk0 hB2; rw [seenL_zero] at hS0; refine wl_a ?_; refine wl_nil (nrm_then ?_); refine cw_seq ?_; refine cw_region ?_; refine wl_bslice (vs := []) rfl Try.slice46 rfl rfl rfl rfl fun b20 w21 hO22 hs23 hw24 => ?_; have hA25 := Apart.new (Lt.own hO18) hs23; have hA26 := Apart.new (Lt.blk hB19) hs23; have hA27 := Apart.new (Lt.own hS0) hs23; have hG28 := Ge.new hE17 hs23; have hE29 := hE17.then hw24; have hO30 := hO18.evo0 hw24; have hB31 := hw24.blk0 hB19; have hO32 := hS0.evo0 hw24; refine wl_a ?_; refine wl_nil (nrm_then ?_); refine cw_seq ?_; refine cw_seq ?_; refine cw_region ?_; refine wl_a ?_; refine wl_nil (nrm_then ?_); refine cw_block ?_
  refine cw_loop (α := SpG) (⟨0, init, init.length, a, c, ob, [], 0, _, _, _⟩) (fun x => [(11, .int .i64 (x.k : Nat)), (3, .slice x.la x.ln x.lc), (10, .slice x.oa x.on x.oc)]) [(1, _), (2, _), (4, _), (9, _)] (fun x wr => Evo ob.toList w wr ∧ (SpI w wr l s i init ob _ _ _ b4 #[.slice pa l.length pc, iv 0, pg, nm] x)) (fun x => init.length + 2 * l.length + 1 - x.k) ⟨rfl, rfl, rfl, trivial⟩ ⟨rfl, rfl, rfl, rfl, trivial⟩ ⟨hE29, ⟨SI.start hini, rfl, rfl, hO30, hO22, hO32, hB31, hA25, hA14, hA27.symm, hA5.symm, hA26, hA15, .inl rfl, hG28, hG16, by simp⟩⟩ ?_; rintro ⟨k, ls, ln, la, lc, lo, out, on, oa, oc, oo⟩ wr33 ⟨hV34, ⟨hsi, hln, hon, hol, hoo, hos, hb4, ha1, ha2, ha3, ha4, ha5, ha6, hhl, hgo, hgs, hnz⟩⟩; show CW _ _ _ _ [(11, .int .i64 (k : Nat)), (3, .slice la ln lc), (10, .slice oa on oc), (1, _), (2, _), (4, _), (9, _)] _
  try dsimp only at hsi
  try dsimp only at hln
  try dsimp only at hon
  try dsimp only at hol
  try dsimp only at hoo
  try dsimp only at hos
  try dsimp only at hb4
  try dsimp only at ha1
  try dsimp only at ha2
  try dsimp only at ha3
  try dsimp only at ha4
  try dsimp only at ha5
  try dsimp only at ha6
  try dsimp only at hhl
  try dsimp only at hgo
  try dsimp only at hgs
  try dsimp only at hnz
  refine cw_seq ?_; refine cw_seq ?_; refine cw_region ?_; refine wl_m ?_; refine wl_m ?_; refine wl_val rfl (ex_len_slice rfl Try.underlying46 rfl) ?_; refine wl_val rfl (ex_lss rfl rfl) ?_; refine wl_nil (nrm_then ?_); refine cw_if rfl (fun hc22 => ?_) (fun hc22 => ?_)
  ·skip
   have hk' : k < ls.length := by omega
   have hbd := hsi.bound; have hole := hsi.olen; have hlm := hsi.rng _ (List.getElem_mem hk'); obtain ⟨gL, haL, hcL⟩ := own_ints hol (by omega); refine cw_skip (nrm_then ?_); refine cw_seq ?_; refine cw_block ?_; refine cw_seq ?_; refine cw_region ?_; refine wl_m ?_; refine wl_m ?_
   refine wl_val rfl (ex_indexAddr (n := k) (by rw [haL]; rfl) rfl Try.elem46 (by omega)) ?_
   refine wl_val rfl (ex_load1 rfl Try.agg3 (hcL k hk')) ?_; refine wl_a ?_; refine wl_nil (nrm_then ?_); refine cw_seq ?_; refine cw_seq ?_; refine cw_region ?_; refine wl_m ?_; refine wl_val rfl (ex_lss rfl rfl) ?_; refine wl_m ?_; refine wl_split (t := 31) rfl (fun hs31 => ?_) (fun hs31 => ?_)
   ·skip
    exact absurd hs31 (by omega)
   ·skip
    refine wl_g ?_; refine wl_m ?_; refine wl_g ?_; refine wl_val rfl (ex_fieldAddr rfl Try.fld29_0) ?_; refine wl_g ?_; refine wl_val rfl (ex_load1 rfl Try.agg26 (cell_nth hb4 rfl)) ?_; refine wl_g ?_; refine wl_val rfl (ex_len_slice rfl Try.underlying26 rfl) ?_; refine wl_g ?_; refine wl_val rfl (ex_geq rfl rfl) ?_; refine wl_pf ?_; refine wl_nil (nrm_then ?_); refine cw_if rfl (fun hc37 => ?_) (fun hc37 => ?_)
    ·skip
     exact absurd hc37 (by omega)
    ·skip
     refine cw_skip (nrm_then ?_); refine cw_seq ?_; refine cw_seq ?_; refine cw_region ?_; refine wl_m ?_; refine wl_m ?_; obtain ⟨gS, -, haS, hcS⟩ := hos.cells (by omega); cases haS; refine wl_val rfl (ex_indexAddr (n := ls[k]) rfl rfl Try.elem65 hlm) ?_
     refine wl_val rfl (ex_load1 rfl Try.agg4 (by rw [Nat.mul_one]; exact hcS ls[k] _ (seenL_get out hlm))) ?_
     refine wl_nil (nrm_then ?_); refine cw_if rfl (fun hc41 => ?_) (fun hc41 => ?_)
     ·skip
      refine cw_exit (ex_then (ex_here (nrm_then ?_))); refine cw_region ?_; refine wl_m ?_; refine wl_val rfl (ex_add_i64 rfl rfl (by omega) (by omega)) ?_; refine wl_a ?_; refine wl_nil (nrm_same ?_); refine ⟨⟨k + 1, ls, ln, la, lc, lo, out, on, oa, oc, oo⟩, ?_, ⟨rfl, rfl, rfl, trivial⟩, ⟨rfl, rfl, rfl, rfl, trivial⟩, hV34, ?_⟩
      · (try dsimp only); have := hsi.bound; have := hsi.olen; omega
      ·skip
       try dsimp only
       exact ⟨hsi.skip hk' hc41, hln, hon, hol, hoo, hos, hb4, ha1, ha2, ha3, ha4, ha5, ha6, hhl, hgo, hgs, hnz⟩
     ·skip
      obtain ⟨bP, oP, vsP, haP, hbP, -, hcP, vr, rfl, hrr, hrl⟩ := e1 ls[k] hlm; have hc0 : l[ls[k]]? = some l[ls[k]] := List.getElem?_eq_getElem hlm; have hrg := hR _ _ hc0; have hsz9 := (hV34).size; have hone := hrr.one; refine cw_skip (nrm_then ?_); refine cw_seq ?_; refine cw_region ?_; refine wl_m ?_; refine wl_m ?_; refine wl_val rfl (ex_indexAddr (n := ls[k]) rfl rfl Try.elem65 hlm) ?_
      obtain ⟨g44, cur35, hg36, hx37, hcu38, hcs39, -⟩ := hos.at (by omega)
      cases hx37; refine wl_store1L rfl rfl (rfl) Try.size4 hcu38 (hos.inb hcs39 (k := ls[k]) (j := 0) (by omega) (by omega) (by omega)) fun w40 hB41 hw42 => ?_; replace hw42 := evo_ob hg36 hw42; have hO43 := hos.set' hg36 hcu38 hB41; have hE45 := hV34.step hw42 hgs.mem; have hO46 := hol.evo hw42 ha2.own; have hO47 := hoo.evo hw42 ha3.own; have hB48 := hw42.blk hb4 ha6.nmem; rw [show 0 + ls[k] * 1 = ls[k] from by omega, seenL_set out hlm] at hO43; refine wl_nil (nrm_then ?_); refine cw_seq ?_; refine cw_region ?_; refine wl_m ?_; refine wl_m ?_; refine wl_bslice (vs := [_]) rfl Try.slice46 rfl rfl rfl rfl fun b49 w50 hO51 hs52 hw53 => ?_; have hA54 := Apart.new (Lt.own hO46) hs52; have hA55 := Apart.new (Lt.own hO47) hs52; have hA56 := Apart.new (Lt.own hO43) hs52; have hA57 := Apart.new (Lt.blk hB48) hs52; have hG58 := Ge.new hE45 hs52; have hE59 := hE45.then hw53; have hO60 := hO46.evo0 hw53; have hO61 := hO47.evo0 hw53; have hO62 := hO43.evo0 hw53; have hB63 := hw53.blk0 hB48; refine wl_append rfl rfl rfl rfl Try.app46_46 hO61 (Src.ofOwn hO51 ⟨by first | rfl | assumption, trivial⟩) (by omega) fun oa2 oc2 w66 oo2 hOo2 hw69 hob70 => ?_; have hA71 := ha1.app (Lt.own hO60) hob70; have hA72 := ha3.symm.app (Lt.own hO62) hob70; have hA73 := ha5.app (Lt.blk hB63) hob70; have hA74 := hA55.symm.app (Lt.own hO51) hob70; have hG75 := hgo.app hE59 hob70; have hE76 := hE59.step hw69 hgo.mem; have hO77 := hO60.evo hw69 ha1.own; have hO78 := hO62.evo hw69 ha3.symm.own; have hB79 := hw69.blk hB63 ha5.nmem; have hO80 := hO51.evo hw69 hA55.symm.own; have hnz2 : oa2 ≠ none := own_some hOo2 (by omega); refine wl_a ?_; refine wl_nil (nrm_then ?_); refine cw_seq ?_; refine cw_region ?_; refine wl_val rfl (ex_fieldAddr rfl Try.fld29_0) ?_
      refine wl_val rfl (ex_load1 rfl Try.agg26 (cell_nth hB79 rfl)) ?_; refine wl_m ?_
      refine wl_val rfl (ex_indexAddr (n := ls[k]) (by rw [haP]; rfl) rfl Try.elem26 hlm) ?_
      refine wl_val rfl (ex_loadA rfl Try.agg44 Try.size44 (vs := [_, _, _, _, _]) rfl (hcP.evo hE76 hbP)) ?_; refine wl_alloc rfl Try.zero44 fun b13 w81 hB82 hs83 hw84 => ?_; have hsz_b13 := hs83; have hA85 := Apart.new (Lt.own hO77) hs83; have hA86 := Apart.new (Lt.own hO78) hs83; have hA87 := Apart.new (Lt.blk hB79) hs83; have hA88 := Apart.new (Lt.own hOo2) hs83; have hG89 := Ge.new hE76 hs83; have hE90 := hE76.then hw84; have hO91 := hO77.evo0 hw84; have hO92 := hO78.evo0 hw84; have hB93 := hw84.blk0 hB79; have hO94 := hOo2.evo0 hw84; refine wl_storeBlk rfl rfl Try.size44 hB82 rfl rfl ⟨by first | rfl | assumption, by first | rfl | assumption, by first | rfl | assumption, by first | rfl | assumption, by first | rfl | assumption, trivial⟩ fun w95 hB96 hw97 => ?_; have hE98 := hE90.step hw97 hG89.mem1; have hO99 := hO91.evo hw97 hA85.own1; have hO100 := hO92.evo hw97 hA86.own1; have hB101 := hw97.blk hB93 hA87.nmem1; have hO102 := hO94.evo hw97 hA88.own1
      try simp only [List.setIfInBounds_toArray, List.set_cons_zero, List.set_cons_succ, Nat.reduceAdd, Nat.zero_add, Nat.add_zero] at hB96
      refine wl_nil (nrm_then ?_); refine cw_seq ?_; refine cw_region ?_; refine wl_val rfl (ex_loadBlk rfl Try.agg44 Try.size44 hB96 rfl) ?_; refine wl_m ?_; refine wl_m ?_; refine wl_call1 (vs := [_, _, _]) Try.goes36 rfl (goes_ok s l[ls[k]] i hi hs hrr.cell) rfl ?_; rintro _ w103 ⟨rfl, hw104⟩; have hE105 := hE98.then hw104; have hO106 := hO99.evo0 hw104; have hO107 := hO100.evo0 hw104; have hB108 := hw104.blk0 hB101; have hO109 := hO102.evo0 hw104; have hB110 := hw104.blk0 hB96; refine wl_nil (nrm_then ?_); refine cw_if rfl (fun hc57 => ?_) (fun hc57 => ?_)
      ·skip
       refine cw_seq ?_; refine cw_region ?_; refine wl_m ?_; refine wl_val rfl (ex_fieldAddr rfl Try.fld44_1) ?_; refine wl_val rfl (ex_load1 rfl Try.agg3 (cell_nth hB110 rfl)) ?_; refine wl_bslice (vs := [_]) rfl Try.slice46 rfl rfl rfl rfl fun b111 w112 hO113 hs114 hw115 => ?_; have hA116 := Apart.new (Lt.own hO106) hs114; have hA117 := Apart.new (Lt.own hO107) hs114; have hA118 := Apart.new (Lt.blk hB108) hs114; have hA119 := Apart.new (Lt.own hO109) hs114; have hA120 := Apart.new (Lt.blk hB110) hs114; have hG121 := Ge.new hE105 hs114; have hE122 := hE105.then hw115; have hO123 := hO106.evo0 hw115; have hO124 := hO107.evo0 hw115; have hB125 := hw115.blk0 hB108; have hO126 := hO109.evo0 hw115; have hB127 := hw115.blk0 hB110; have hsza := (hE122).size; refine wl_append rfl rfl rfl rfl Try.app46_46 hO123 (Src.ofOwn hO113 ⟨by first | rfl | assumption, trivial⟩) (by omega) fun la2 lc2 w130 lo2 hLo2 hw133 hob134 => ?_; have hA135 := ha2.symm.app (Lt.own hO124) hob134; have hA136 := ha4.app (Lt.blk hB125) hob134; have hA137 := hA71.symm.app (Lt.own hO126) hob134; have hA138 := hA85.symm.app (Lt.blk hB127) hob134; have hA139 := hA116.symm.app (Lt.own hO113) hob134; have hE140 := hE122.step hw133 (ob_mem hhl); have hO141 := hO124.evo hw133 ha2.symm.own; have hB142 := hw133.blk hB125 ha4.nmem; have hO143 := hO126.evo hw133 hA71.symm.own; have hB144 := hw133.blk hB127 hA85.symm.nmem; have hO145 := hO113.evo hw133 hA116.symm.own
       have hh2 : lo2 = ob ∨ ∃ g, lo2 = some g ∧ w.heap.size ≤ g := by rcases hob134 with h | ⟨g, h1, h2⟩; (rw [h]; exact hhl); exact .inr ⟨g, h1, Nat.le_trans hsza h2⟩
       refine wl_a ?_; refine wl_nil (nrm_then ?_); refine cw_seq ?_; refine cw_region ?_; refine wl_val rfl (ex_fieldAddr rfl Try.fld44_0) ?_; refine wl_val rfl (ex_load1 rfl Try.agg3 (cell_nth hB144 rfl)) ?_; refine wl_val rfl (ex_eql rfl rfl) ?_; refine wl_nil (nrm_then ?_); refine cw_if rfl (fun hc65 => ?_) (fun hc65 => ?_)
       ·skip
        refine cw_region ?_; refine wl_m ?_; refine wl_val rfl (ex_fieldAddr rfl Try.fld44_2) ?_; refine wl_val rfl (ex_load1 rfl Try.agg3 (cell_nth hB144 rfl)) ?_; refine wl_bslice (vs := [_]) rfl Try.slice46 rfl rfl rfl rfl fun b146 w147 hO148 hs149 hw150 => ?_; have hA151 := Apart.new (Lt.own hO141) hs149; have hA152 := Apart.new (Lt.blk hB142) hs149; have hA153 := Apart.new (Lt.own hO143) hs149; have hA154 := Apart.new (Lt.blk hB144) hs149; have hA155 := Apart.new (Lt.own hLo2) hs149; have hG156 := Ge.new hE140 hs149; have hE157 := hE140.then hw150; have hO158 := hO141.evo0 hw150; have hB159 := hw150.blk0 hB142; have hO160 := hO143.evo0 hw150; have hB161 := hw150.blk0 hB144; have hO162 := hLo2.evo0 hw150; have hszb := (hE157).size; refine wl_append rfl rfl rfl rfl Try.app46_46 hO162 (Src.ofOwn hO148 ⟨by first | rfl | assumption, trivial⟩) (by omega) fun la3 lc3 w165 lo3 hLo3 hw168 hob169 => ?_; have hA170 := hA135.app (Lt.own hO158) hob169; have hA171 := hA136.app (Lt.blk hB159) hob169; have hA172 := hA137.app (Lt.own hO160) hob169; have hA173 := hA138.app (Lt.blk hB161) hob169; have hA174 := hA155.symm.app (Lt.own hO148) hob169; have hE175 := hE157.step hw168 (ob_mem hh2); have hO176 := hO158.evo hw168 hA135.own; have hB177 := hw168.blk hB159 hA136.nmem; have hO178 := hO160.evo hw168 hA137.own; have hB179 := hw168.blk hB161 hA138.nmem; have hO180 := hO148.evo hw168 hA155.symm.own
        have hh3 : lo3 = ob ∨ ∃ g, lo3 = some g ∧ w.heap.size ≤ g := by rcases hob169 with h | ⟨g, h1, h2⟩; (rw [h]; exact hh2); exact .inr ⟨g, h1, Nat.le_trans hszb h2⟩
        refine wl_a ?_; refine wl_nil (nrm_block (nrm_then ?_)); refine cw_region ?_; refine wl_m ?_; refine wl_val rfl (ex_add_i64 rfl rfl (by omega) (by omega)) ?_; refine wl_a ?_; refine wl_nil (nrm_same ?_); refine ⟨⟨k + 1, ls ++ [l[ls[k]].out.toNat, l[ls[k]].alt.toNat], ln + 1 + 1, la3, lc3, lo3, out ++ [ls[k]], on + 1, oa2, oc2, oo2⟩, ?_, ⟨rfl, rfl, rfl, trivial⟩, ⟨rfl, rfl, rfl, rfl, trivial⟩, hE175, ?_⟩
        · (try dsimp only); have := hsi.bound; have := hsi.olen; omega
        ·skip
         try dsimp only
         have hgo : GoesB s l[ls[k]] i := hc57; have hop := goes_ops hgo; have hout := hrg.eps hop; have halt := hrg.alt hc65
         have hm : (l[ls[k]].out.toNat : Int) = l[ls[k]].out := by omega
         have hm2 : (l[ls[k]].alt.toNat : Int) = l[ls[k]].alt := by omega
         have hmore : ∀ q, q ∈ [l[ls[k]].out.toNat, l[ls[k]].alt.toNat] ↔ EpsB l s i ls[k] q := fun q => by rw [eps_at hc0, List.mem_cons, List.mem_singleton]; constructor; (rintro (h | h); exact ⟨hgo, .inl (by omega)⟩; exact ⟨hgo, .inr ⟨hc65, by omega⟩⟩); (rintro ⟨-, h | ⟨-, h⟩⟩; left; omega; right; omega)
         have hO2' : OwnS w165 3 1 oa2 (on + 1) oc2 (ivs (out ++ [ls[k]])) oo2 := by have h := hO178; rw [show ivs (out ++ [ls[k]]) = ivs out ++ [iv (ls[k] : Nat)] from by simp [ivs]]; exact h
         have hL2' : OwnS w165 3 1 la3 (ln + 1 + 1) lc3 (ivs (ls ++ [l[ls[k]].out.toNat, l[ls[k]].alt.toNat])) lo3 := by have h := hLo3; rw [show ivs (ls ++ [l[ls[k]].out.toNat, l[ls[k]].alt.toNat]) = (ivs ls ++ [iv l[ls[k]].out]) ++ [iv l[ls[k]].alt] from by simp [ivs, hm, hm2]]; exact h
         have h1 := hsi.take hk' hc41 (by simp) hmore (fun q h => by rw [List.mem_cons, List.mem_singleton] at h; omega)
         exact ⟨h1, by show ln + 1 + 1 = (ls ++ [_, _]).length; rw [List.length_append, hln]; rfl, by show on + 1 = (out ++ [_]).length; rw [List.length_append, hon]; rfl, hL2', hO2', hO176, hB177, hA172.symm, hA170.symm, hA72.symm, hA171, hA73, ha6, hh3, hG75, hgs, hnz2⟩
       ·skip
        refine cw_skip (nrm_block (nrm_then ?_)); refine cw_region ?_; refine wl_m ?_; refine wl_val rfl (ex_add_i64 rfl rfl (by omega) (by omega)) ?_; refine wl_a ?_; refine wl_nil (nrm_same ?_); refine ⟨⟨k + 1, ls ++ [l[ls[k]].out.toNat], ln + 1, la2, lc2, lo2, out ++ [ls[k]], on + 1, oa2, oc2, oo2⟩, ?_, ⟨rfl, rfl, rfl, trivial⟩, ⟨rfl, rfl, rfl, rfl, trivial⟩, hE140, ?_⟩
        · (try dsimp only); have := hsi.bound; have := hsi.olen; omega
        ·skip
         try dsimp only
         have hgo : GoesB s l[ls[k]] i := hc57; have hop := goes_ops hgo; have hout := hrg.eps hop
         have hm : (l[ls[k]].out.toNat : Int) = l[ls[k]].out := by omega
         have hmore : ∀ q, q ∈ [l[ls[k]].out.toNat] ↔ EpsB l s i ls[k] q := fun q => by rw [eps_at hc0, List.mem_singleton]; constructor; (intro h; exact ⟨hgo, .inl (by omega)⟩); (rintro ⟨-, h | ⟨h, -⟩⟩; omega; omega)
         have hO2' : OwnS w130 3 1 oa2 (on + 1) oc2 (ivs (out ++ [ls[k]])) oo2 := by have h := hO143; rw [show ivs (out ++ [ls[k]]) = ivs out ++ [iv (ls[k] : Nat)] from by simp [ivs]]; exact h
         have hL2' : OwnS w130 3 1 la2 (ln + 1) lc2 (ivs (ls ++ [l[ls[k]].out.toNat])) lo2 := by have h := hLo2; rw [show ivs (ls ++ [l[ls[k]].out.toNat]) = ivs ls ++ [iv l[ls[k]].out] from by simp [ivs, hm]]; exact h
         have h1 := hsi.take hk' hc41 (by simp) hmore (fun q h => by rw [List.mem_singleton] at h; omega)
         exact ⟨h1, by show ln + 1 = (ls ++ [_]).length; rw [List.length_append, hln]; rfl, by show on + 1 = (out ++ [_]).length; rw [List.length_append, hon]; rfl, hL2', hO2', hO141, hB142, hA137.symm, hA135.symm, hA72.symm, hA136, hA73, ha6, hh2, hG75, hgs, hnz2⟩
      ·skip
       refine cw_skip (nrm_block (nrm_then ?_)); refine cw_region ?_; refine wl_m ?_; refine wl_val rfl (ex_add_i64 rfl rfl (by omega) (by omega)) ?_; refine wl_a ?_; refine wl_nil (nrm_same ?_); refine ⟨⟨k + 1, ls, ln, la, lc, lo, out ++ [ls[k]], on + 1, oa2, oc2, oo2⟩, ?_, ⟨rfl, rfl, rfl, trivial⟩, ⟨rfl, rfl, rfl, rfl, trivial⟩, hE105, ?_⟩
       · (try dsimp only); have := hsi.bound; have := hsi.olen; omega
       ·skip
        try dsimp only
        have hmore : ∀ q, q ∈ ([] : List Nat) ↔ EpsB l s i ls[k] q := fun q => by rw [eps_at hc0]; exact ⟨fun h => (by cases h), fun h => (hc57 h.1).elim⟩
        have hO2' : OwnS w103 3 1 oa2 (on + 1) oc2 (ivs (out ++ [ls[k]])) oo2 := by have h := hO109; rw [show ivs (out ++ [ls[k]]) = ivs out ++ [iv (ls[k] : Nat)] from by simp [ivs]]; exact h
        have h1 := hsi.take hk' hc41 (by simp) hmore (fun q h => by cases h); rw [List.append_nil] at h1
        exact ⟨h1, hln, by show on + 1 = (out ++ [_]).length; rw [List.length_append, hon]; rfl, hO106, hO2', hO107, hB108, hA71, ha2, hA72.symm, ha4, hA73, ha6, hhl, hG75, hgs, hnz2⟩
  ·skip
   refine cw_exit (ex_then (ex_then (ex_here (nrm_then ?_)))); refine cw_seq ?_; refine cw_region ?_; refine wl_m ?_; refine wl_a ?_; refine wl_nil (nrm_then ?_); refine cw_ret (body_ret1 rfl rfl ?_); subst hon; exact ⟨_, _, _, out, rfl, hnz, hoo, hV34, hgo, hsi.stop (by omega), hsi.olen, fun q hq => hsi.rng q (hsi.sub q hq)⟩
end Go.Proofs.Ytgboffefbpligaa
namespace Go.Proofs.Ytgboffefbpligaa
open Go.Proofs
open Go.W Go.RowKit
attribute [local irreducible] Decidable.decide
set_option linter.unusedSimpArgs false
set_option linter.unusedVariables false
theorem Try.fld29_1 : fieldB Try.prog 29 1 = some 1 := by kernel_rfl
theorem Try.fld44_4 : fieldB Try.prog 44 4 = some 4 := by kernel_rfl
theorem Try.goes18 : Goes Try.prog 18 := ⟨_, Try.func18, by kernel_rfl, by kernel_rfl⟩
theorem Try.goes19 : Goes Try.prog 19 := ⟨_, Try.func19, by kernel_rfl, by kernel_rfl⟩
theorem RProg.own {w w' : World} {ps : List Value} {l : List In} {o : Option Nat} (h : RProg [] w ps l) (he : Evo [] w w') (hg : Ge w o) : RProg o.toList w' ps l := by
  have h1 : RProg (o.toList ++ []) w ps l := RProg.fresh [] _ w ps l (fun y hy => by rw [List.append_nil] at hy; exact .inr (hg y (by simpa using hy))) h
  rw [List.append_nil] at h1
  exact RProg.pers _ _ _ _ _ (he.mono (fun b hb => by cases hb)) h1
theorem rAt_two {s : ByteArray} {i : Nat} (h : (runeAtR s i).1 = -2) : i < s.size ∧ (nextR s i).2 = 0 := by
  unfold runeAtR at h
  split at h
  · simp at h
  · split at h
    · exact ⟨by omega, by assumption⟩
    · rcases next_cases s i with e | e
      · rename_i h1; exact (h1 (by rw [e])).elim
      · simp only at h; omega
theorem rAt_zero {s : ByteArray} {i : Nat} (h : ¬ (runeAtR s i).1 = -2) (h0 : (runeAtR s i).2 = 0) : s.size ≤ i := by
  unfold runeAtR at h h0
  split at h
  · assumption
  · rename_i h1
    rw [if_neg h1] at h0
    split at h
    · simp at h
    · rename_i h2
      rw [if_neg h2] at h0
      simp only at h0; omega
theorem rAt_go {s : ByteArray} {i : Nat} (h : ¬ (runeAtR s i).1 = -2) (h0 : ¬ (runeAtR s i).2 = 0) : i < s.size ∧ 0 < (nextR s i).2 ∧ (runeAtR s i).1 = (nextR s i).1 ∧ (runeAtR s i).2 = ((nextR s i).2 : Nat) := by
  unfold runeAtR at h h0 ⊢
  split at h
  · rename_i h1; rw [if_pos h1] at h0; simp at h0
  · rename_i h1
    rw [if_neg h1] at h0 ⊢
    split at h
    · simp at h
    · rename_i h2
      rw [if_neg h2]
      exact ⟨by omega, by omega, rfl, rfl⟩
theorem utf_bad {s : ByteArray} {k : Nat} (hw : ∀ j, j < k → 0 < (nextR s (offs s j)).2) (h : offs s k < s.size) (h0 : (nextR s (offs s k)).2 = 0) : ¬ ∃ N, Utf s N := by
  rintro ⟨N, h1, h2⟩
  by_cases e : N ≤ k
  · have := offs_mono s e; omega
  · have := h2 k (by omega); omega
theorem eat_at {l : List In} {s : ByteArray} {i p q : Nat} {c : In} (h : l[p]? = some c) : EatB l s i p q ↔ c.op = 2 ∧ (q : Int) = c.out ∧ 0 < (nextR s i).2 ∧ InR (nextR s i).1 c.rs := by
  unfold EatB
  constructor
  · rintro ⟨c', h1, h2⟩; rw [h] at h1; cases h1; exact h2
  · exact fun h2 => ⟨c, h, h2⟩
structure TkG where
  k : Nat
  ls : List Nat
  ln : Nat
  la : Option Addr
  lc : Nat
  lo : Option Nat
structure TkI (w wr : World) (l : List In) (s : ByteArray) (b2 : Nat) (cs : Array Value) (x : TkG) : Prop where
  hw : ∀ j, j < x.k → 0 < (nextR s (offs s j)).2
  fr : ∀ q, q ∈ x.ls ↔ Front l s x.k q
  rng : ∀ q, q ∈ x.ls → q < l.length
  ln : x.ln = x.ls.length
  bd : x.ln ≤ 10000
  ol : OwnS wr 3 1 x.la x.ln x.lc (ivs x.ls) x.lo
  go : Ge w x.lo
  bx : wr.heap[b2]? = some (.cells cs 29 (0, 0))
  ap : Apart (some b2) x.lo
structure EtG where
  j : Nat
  ls : List Nat
  ln : Nat
  la : Option Addr
  lc : Nat
  lo : Option Nat
structure EtI (w wr : World) (l : List In) (s : ByteArray) (k : Nat) (now : List Nat) (na : Option Addr) (nc : Nat) (no : Option Nat) (b2 : Nat) (cs : Array Value) (x : EtG) : Prop where
  j : x.j ≤ now.length
  eat : ∀ q, q ∈ x.ls ↔ ∃ i, ∃ h : i < now.length, i < x.j ∧ EatB l s (offs s k) now[i] q
  ln : x.ln = x.ls.length
  bd : x.ln ≤ x.j
  ol : OwnS wr 3 1 x.la x.ln x.lc (ivs x.ls) x.lo
  nw : OwnS wr 3 1 na now.length nc (ivs now) no
  go : Ge w x.lo
  bx : wr.heap[b2]? = some (.cells cs 29 (0, 0))
  ap : Apart (some b2) x.lo
  a2 : Apart no x.lo
theorem eat_skip {l : List In} {s : ByteArray} {i j : Nat} {now ls : List Nat} (h : ∀ q, q ∈ ls ↔ ∃ k, ∃ h : k < now.length, k < j ∧ EatB l s i now[k] q) (hj : j < now.length) (hno : ∀ q, ¬ EatB l s i now[j] q) : ∀ q, q ∈ ls ↔ ∃ k, ∃ h : k < now.length, k < j + 1 ∧ EatB l s i now[k] q := fun q => by
  rw [h q]
  constructor
  · rintro ⟨k, hk, h1, h2⟩; exact ⟨k, hk, by omega, h2⟩
  · rintro ⟨k, hk, h1, h2⟩
    by_cases e : k = j
    · subst e; exact (hno q h2).elim
    · exact ⟨k, hk, by omega, h2⟩
theorem eat_more {l : List In} {s : ByteArray} {i j o : Nat} {now ls : List Nat} (h : ∀ q, q ∈ ls ↔ ∃ k, ∃ h : k < now.length, k < j ∧ EatB l s i now[k] q) (hj : j < now.length) (ho : ∀ q, EatB l s i now[j] q ↔ q = o) : ∀ q, q ∈ ls ++ [o] ↔ ∃ k, ∃ h : k < now.length, k < j + 1 ∧ EatB l s i now[k] q := fun q => by
  rw [List.mem_append, List.mem_singleton, h q]
  constructor
  · rintro (⟨k, hk, h1, h2⟩ | rfl)
    · exact ⟨k, hk, by omega, h2⟩
    · exact ⟨j, hj, by omega, (ho _).2 rfl⟩
  · rintro ⟨k, hk, h1, h2⟩
    by_cases e : k = j
    · subst e; exact .inr ((ho q).1 h2)
    · exact .inl ⟨k, hk, by omega, h2⟩
theorem front_next {l : List In} {s : ByteArray} {k : Nat} {now ls : List Nat} (hn : ∀ q, q ∈ now ↔ WB l s q k) (h : ∀ q, q ∈ ls ↔ ∃ i, ∃ h : i < now.length, i < now.length ∧ EatB l s (offs s k) now[i] q) : ∀ q, q ∈ ls ↔ Front l s (k + 1) q := fun q => by
  rw [h q]
  constructor
  · rintro ⟨i, hi, -, h2⟩; exact .inr ⟨k, now[i], rfl, (hn _).1 (List.getElem_mem hi), h2⟩
  · rintro (⟨h1, -⟩ | ⟨k', p, h1, h2, h3⟩)
    · omega
    · obtain rfl : k' = k := by omega
      obtain ⟨i, hi, rfl⟩ := List.getElem_of_mem ((hn p).2 h2)
      exact ⟨i, hi, hi, h3⟩
theorem front0 (l : List In) (s : ByteArray) (q : Nat) : q ∈ [0] ↔ Front l s 0 q := by
  rw [List.mem_singleton]
  constructor
  · intro h; exact .inl ⟨rfl, h⟩
  · rintro (⟨-, h⟩ | ⟨k', p, h, -⟩)
    · exact h
    · omega
theorem not_inR {c : Int} {l : List (Int × Int)} (h : ∀ i (hi : i < l.length), ¬ (l[i].1 ≤ c ∧ c ≤ l[i].2)) : ¬ InR c l := fun ⟨g, hg, h1⟩ => by
  obtain ⟨i, hi, rfl⟩ := List.getElem_of_mem hg
  exact h i hi h1
theorem ivs_snoc {ls : List Nat} {o : Int} (h : (o.toNat : Int) = o) : ivs (ls ++ [o.toNat]) = ivs ls ++ [iv o] := by simp [ivs, h]
def TakenIs (l : List In) (s : ByteArray) (r : Int) : Prop := (r = 2 ∧ ¬ ∃ N, Utf s N) ∨ ∃ N, Utf s N ∧ ((r = 1 ∧ ∃ p c, WB l s p N ∧ l[p]? = some c ∧ c.op = 1) ∨ (r = 0 ∧ ¬ ∃ p c, WB l s p N ∧ l[p]? = some c ∧ c.op = 1))
theorem own_ints_at {w : World} {e : TypeId} {g n c : Nat} {ys : List Nat} {a : Option Addr} {ob : Option Nat} (h : OwnS w e 1 a n c (ys.map fun p => iv (p : Nat)) ob) (ha : a = some ⟨g, 0, none⟩) : ∀ k (hk : k < ys.length), w.cell? ⟨g, 0 + k * 1, none⟩ = some (iv (ys[k] : Nat)) := fun k hk => by
  have hl := h.length
  rw [List.length_map] at hl
  obtain ⟨g', -, ha', hc⟩ := h.cells (by omega)
  rw [ha] at ha'
  cases ha'
  rw [Nat.mul_one]
  exact hc k _ (by simp [hk])
set_option maxHeartbeats 8000000 in
theorem taken_ok {w : World} {ps : List Value} {l : List In} {s : ByteArray} (hp : RProg [] w ps l) (hR : Rng l) (h0 : 0 < l.length) (hs : s.size ≤ 1000000000) :
    Calls Try.prog 8 #[.agg ps.toArray, .string s] w (Ret fun v w' => Evo [] w w' ∧ ∃ r, v = iv r ∧ TakenIs l s r) := by
  have hp0 := hp; obtain ⟨vi, pg, nm, rfl, hpi, hpl, hpg, hpn⟩ := hp; obtain ⟨pa, pc, rfl, hpc, e1⟩ := hpi; refine calls_of_cw (N := 101) Try.func8 rfl rfl rfl ?_; refine cw_seq ?_; refine cw_region ?_; refine wl_boxA rfl rfl fun b2 w1 hB2 hs3 hw4 => ?_; have hsz_b2 := hs3; have hG5 := Ge.new (Evo.refl [] w) hs3; have hE6 := (Evo.refl [] w).then hw4; refine wl_a ?_; refine wl_nil (nrm_then ?_); refine cw_seq ?_; refine cw_region ?_; refine wl_val rfl (ex_fieldAddr rfl Try.fld29_1) ?_; refine wl_val rfl (ex_load1 rfl Try.agg3 (cell_nth hB2 rfl)) ?_; refine wl_bslice (vs := [_]) rfl Try.slice46 rfl rfl rfl rfl fun b7 w8 hO9 hs10 hw11 => ?_; have hA12 := Apart.new (Lt.blk hB2) hs10; have hG13 := Ge.new hE6 hs10; have hE14 := hE6.then hw11; have hB15 := hw11.blk0 hB2; refine wl_a ?_; refine wl_nil (nrm_then ?_); refine cw_seq ?_; refine cw_region ?_; refine wl_a ?_; refine wl_nil (nrm_then ?_); refine cw_block ?_
  refine cw_loop (α := TkG) (⟨0, [0], 1, _, _, _⟩) (fun x => [(6, .int .i64 (offs s x.k : Nat)), (5, .slice x.la x.ln x.lc)]) [(1, _), (2, _)] (fun x wr => Evo [] w wr ∧ (TkI w wr l s b2 #[.slice pa l.length pc, iv 0, pg, nm] x)) (fun x => s.size - offs s x.k) ⟨rfl, rfl, trivial⟩ ⟨rfl, rfl, trivial⟩ ⟨hE14, ⟨(fun j h => (by cases h)), front0 l s, (fun q h => (by rw [List.mem_singleton] at h; omega)), rfl, (by show 1 ≤ 10000; decide), hO9, hG13, hB15, hA12⟩⟩ ?_
  rintro ⟨k, ls, ln, la, lc, lo⟩ wr16 ⟨hV17, ⟨hw, hfr, hrng, hln, hbd, hol, hgo, hb2, hap⟩⟩; show CW _ _ _ _ [(6, .int .i64 (offs s k : Nat)), (5, .slice la ln lc), (1, _), (2, _)] _
  try dsimp only at hw
  try dsimp only at hfr
  try dsimp only at hrng
  try dsimp only at hln
  try dsimp only at hbd
  try dsimp only at hol
  try dsimp only at hgo
  try dsimp only at hb2
  try dsimp only at hap
  subst hln; refine cw_block ?_; refine cw_seq ?_; refine cw_region ?_; refine wl_val rfl (ex_loadBlk rfl Try.agg29 Try.size29 hb2 rfl) ?_; refine wl_m ?_; refine wl_m ?_; refine wl_m ?_; refine wl_call1 (vs := [_, _, _, _]) Try.goes18 rfl (spread_ok (i := offs s k) (init := ls) (hp0.own hV17 hgo) hol hrng hR (offs_le s k) hs (by omega)) rfl ?_; rintro _ w18 ⟨na, nc, no, now, rfl, hnn, hNow, hw19, hgn, hnow, hnl, hnr⟩; have hlt2 := (Lt.blk hb2); have hev21 := hV17; have hE20 := hV17.step hw19 (hgo.mem); have hB21 := hw19.blk hb2 (hap.nmem); have hA2n : Apart (some b2) no := Apart.fresh hlt2 hgn; have hGn : Ge w no := Ge.fresh hev21 hgn
  have hwb : ∀ q, q ∈ now ↔ WB l s q k := fun q => by rw [hnow q]; exact spread_wb hfr q
  refine wl_a ?_; refine wl_nil (nrm_then ?_); refine cw_seq ?_; refine cw_seq ?_; refine cw_region ?_; refine wl_m ?_; refine wl_val rfl (ex_eqSl rfl rfl Try.underlying46) ?_; refine wl_nil (nrm_then ?_); refine cw_ifb rfl (fun hc23 => ?_) (fun hc23 => ?_)
  ·skip
   exact absurd hc23 (by cases na with | none => exact (hnn rfl).elim | some a => simp)
  ·skip
   refine cw_skip (nrm_then ?_); refine cw_seq ?_; refine cw_region ?_; refine wl_m ?_; refine wl_m ?_; refine wl_call1 (vs := [_, _]) Try.goes19 rfl (runeAt_ok s (offs s k) (offs_le s k) hs) rfl ?_; rintro _ w22 ⟨rfl, hw23⟩; have hE24 := hE20.then hw23; have hB25 := hw23.blk0 hB21; have hO26 := hNow.evo0 hw23; refine wl_m ?_; refine wl_val rfl (ex_extract rfl rfl) ?_; refine wl_val rfl (ex_extract rfl rfl) ?_; refine wl_a ?_; refine wl_a ?_; refine wl_nil (nrm_then ?_); refine cw_seq ?_; refine cw_seq ?_; refine cw_region ?_; refine wl_m ?_; refine wl_val rfl (ex_eql rfl rfl) ?_; refine wl_nil (nrm_then ?_); refine cw_if rfl (fun hc31 => ?_) (fun hc31 => ?_)
   ·skip
    refine cw_seq ?_; refine cw_region ?_; refine wl_a ?_; refine wl_nil (nrm_then ?_); refine cw_ret (ret_then (ret_block (ret_then (ret_block (body_ret1 rfl rfl ?_))))); exact ⟨hE24, 2, rfl, .inl ⟨rfl, utf_bad hw (rAt_two hc31).1 (rAt_two hc31).2⟩⟩
   ·skip
    refine cw_skip (nrm_then ?_); refine cw_seq ?_; refine cw_seq ?_; refine cw_region ?_; refine wl_m ?_; refine wl_val rfl (ex_eql rfl rfl) ?_; refine wl_nil (nrm_then ?_); refine cw_if rfl (fun hc33 => ?_) (fun hc33 => ?_)
    ·skip
     refine cw_seq ?_; refine cw_seq ?_; refine cw_region ?_; refine wl_a ?_; refine wl_nil (nrm_then ?_); refine cw_block ?_; refine cw_loop (α := Nat) (0) (fun j => [(10, .int .i64 (j : Nat))]) [(1, _), (2, _), (5, _), (6, _), (7, _), (8, _), (9, _)] (fun j wr => Evo [] w22 wr ∧ (j ≤ now.length ∧ ∀ i (h : i < now.length), i < j → ∀ c, l[now[i]]? = some c → c.op ≠ 1)) (fun j => now.length - j) ⟨rfl, trivial⟩ ⟨rfl, rfl, rfl, rfl, rfl, rfl, rfl, trivial⟩ ⟨Evo.refl _ _, ⟨Nat.zero_le _, fun i _ h => by omega⟩⟩ ?_; rintro j wr27 ⟨hV28, ⟨hj, hno⟩⟩; show CW _ _ _ _ [(10, _), (1, _), (2, _), (5, _), (6, _), (7, _), (8, _), (9, _)] _; have hE29 := hE24.then hV28; have hB30 := hV28.blk0 hB25; have hO31 := hO26.evo0 hV28; refine cw_seq ?_; refine cw_seq ?_; refine cw_region ?_; refine wl_m ?_; refine wl_m ?_; refine wl_val rfl (ex_len_slice rfl Try.underlying46 rfl) ?_; refine wl_val rfl (ex_lss rfl rfl) ?_; refine wl_nil (nrm_then ?_); refine cw_if rfl (fun hc37 => ?_) (fun hc37 => ?_)
     ·skip
      have hj' : j < now.length := by omega
      have hnj : now[j] < l.length := hnr _ (List.getElem_mem hj'); obtain ⟨bP, oP, vsP, rfl, hbP, -, hcP, vr, rfl, hrr, hrl⟩ := e1 now[j] hnj; obtain ⟨gN, rfl, hcN⟩ := own_ints hO31 (by omega); have hc0 : l[now[j]]? = some l[now[j]] := List.getElem?_eq_getElem hnj; have hone := hrr.one; refine cw_skip (nrm_then ?_); refine cw_seq ?_; refine cw_block ?_; refine cw_seq ?_; refine cw_any (fun w0 w' => Evo [] w0 w') (by kernel_rfl) (fun w32 hw33 => ?_); have hE34 := hE29.then hw33; have hE35 := hV28.then hw33; have hB36 := hw33.blk0 hB30; have hO37 := hO31.evo0 hw33; refine ae_take 0 rfl (by kernel_rfl) (by kernel_rfl) (by kernel_rfl) rfl (fun _ hS => ex_fieldAddr rfl Try.fld29_0) (Evo.refl [] w32) ?_; refine ae_take 1 rfl (by kernel_rfl) (by kernel_rfl) (by kernel_rfl) rfl (fun _ hS => ex_load1 rfl Try.agg26 (cell_nth (hS.blk0 hB36) rfl)) (Evo.refl [] w32) ?_; refine ae_take 2 rfl (by kernel_rfl) (by kernel_rfl) (by kernel_rfl) rfl (fun _ hS => ex_move rfl) (Evo.refl [] w32) ?_; refine ae_take 3 rfl (by kernel_rfl) (by kernel_rfl) (by kernel_rfl) rfl (fun _ hS => ex_move rfl) (Evo.refl [] w32) ?_; refine ae_take 4 rfl (by kernel_rfl) (by kernel_rfl) (by kernel_rfl) rfl (fun _ hS => ex_indexAddr (n := j) rfl rfl Try.elem46 hj') (Evo.refl [] w32) ?_; refine ae_take 5 rfl (by kernel_rfl) (by kernel_rfl) (by kernel_rfl) rfl (fun _ hS => ex_load1 rfl Try.agg3 ((own_ints_at (hO37.evo0 hS) rfl) j hj')) (Evo.refl [] w32) ?_; refine ae_take 6 rfl (by kernel_rfl) (by kernel_rfl) (by kernel_rfl) rfl (fun _ hS => ex_indexAddr (n := now[j]) rfl rfl Try.elem26 hnj) (Evo.refl [] w32) ?_; refine ae_take 7 rfl (by kernel_rfl) (by kernel_rfl) (by kernel_rfl) rfl (fun _ hS => ex_fieldAddr rfl Try.fld44_0) (Evo.refl [] w32) ?_
      refine ae_take 8 rfl (by kernel_rfl) (by kernel_rfl) (by kernel_rfl) rfl (fun _ hS => ex_load1 rfl Try.agg3 ((hcP.evo (hE34.then hS) hbP) 0 _ rfl)) (Evo.refl [] w32) ?_; refine ae_take 9 rfl (by kernel_rfl) (by kernel_rfl) (by kernel_rfl) rfl (fun _ hS => ex_eql rfl rfl) (Evo.refl [] w32) ?_; refine ae_done (by kernel_rfl) (nrm_then ?_); refine cw_if rfl (fun hc49 => ?_) (fun hc49 => ?_)
      ·skip
       refine cw_seq ?_; refine cw_region ?_; refine wl_a ?_; refine wl_nil (nrm_then ?_); refine cw_ret (ret_block (ret_then (ret_then (ret_block (ret_then (ret_then (ret_block (ret_then (ret_block (body_ret1 rfl rfl ?_)))))))))); have hU : Utf s k := ⟨Nat.le_antisymm (offs_le s k) (rAt_zero hc31 hc33), hw⟩; exact ⟨hE34, 1, rfl, .inr ⟨k, hU, .inl ⟨rfl, now[j], _, (hwb _).1 (List.getElem_mem hj'), hc0, hc49⟩⟩⟩
      ·skip
       refine cw_skip (nrm_block (nrm_then ?_)); refine cw_region ?_; refine wl_m ?_; refine wl_val rfl (ex_add_i64 rfl rfl (by omega) (by omega)) ?_; refine wl_a ?_; refine wl_nil (nrm_same ?_); refine ⟨j + 1, ?_, ⟨rfl, trivial⟩, ⟨rfl, rfl, rfl, rfl, rfl, rfl, rfl, trivial⟩, hE35, ?_⟩
       · omega
       ·skip
        refine ⟨by omega, fun i hi hij c hc => ?_⟩
        by_cases e : i < j
        · exact hno i hi e c hc
        · obtain rfl : i = j := by omega
          rw [hc0] at hc; cases hc; exact hc49
     ·skip
      refine cw_exit (ex_then (ex_then (ex_here (nrm_then ?_)))); refine cw_seq ?_; refine cw_region ?_; refine wl_a ?_; refine wl_nil (nrm_then ?_); refine cw_ret (ret_then (ret_block (ret_then (ret_block (body_ret1 rfl rfl ?_))))); have hU : Utf s k := ⟨Nat.le_antisymm (offs_le s k) (rAt_zero hc31 hc33), hw⟩; refine ⟨hE29, 0, rfl, .inr ⟨k, hU, .inr ⟨rfl, ?_⟩⟩⟩; rintro ⟨p, c, h1, h2, h3⟩; obtain ⟨i, hi, rfl⟩ := List.getElem_of_mem ((hwb p).2 h1); exact hno i hi (by omega) c h2 h3
    ·skip
     obtain ⟨hi1, hi2, hi3, hi4⟩ := rAt_go hc31 hc33; refine cw_skip (nrm_then ?_); refine cw_seq ?_; refine cw_region ?_; refine wl_bslice (vs := []) rfl Try.slice46 rfl rfl rfl rfl fun b38 w39 hO40 hs41 hw42 => ?_; have hA43 := Apart.new (Lt.blk hB25) hs41; have hA44 := Apart.new (Lt.own hO26) hs41; have hG45 := Ge.new hE24 hs41; have hE46 := hE24.then hw42; have hB47 := hw42.blk0 hB25; have hO48 := hO26.evo0 hw42; refine wl_a ?_; refine wl_nil (nrm_then ?_); refine cw_seq ?_; refine cw_seq ?_; refine cw_region ?_; refine wl_a ?_; refine wl_nil (nrm_then ?_); refine cw_block ?_; refine cw_loop (α := EtG) (⟨0, [], 0, _, _, _⟩) (fun x => [(11, .int .i64 (x.j : Nat)), (5, .slice x.la x.ln x.lc)]) [(1, _), (2, _), (6, _), (7, _), (8, _), (9, _)] (fun x wr => Evo [] w wr ∧ (EtI w wr l s k now na nc no b2 #[.slice pa l.length pc, iv 0, pg, nm] x)) (fun x => now.length - x.j) ⟨rfl, rfl, trivial⟩ ⟨rfl, rfl, rfl, rfl, rfl, rfl, trivial⟩ ⟨hE46, ⟨Nat.zero_le _, fun q => ⟨fun h => (by cases h), fun ⟨i, hi, h, _⟩ => (by cases h)⟩, rfl, Nat.le_refl _, hO40, hO48, hG45, hB47, hA43, hA44⟩⟩ ?_; rintro ⟨j, ls, ln, la, lc, lo⟩ wr49 ⟨hV50, ⟨hj, heat, hln2, hbd2, hol2, hnw, hgo2, hb22, hap2, ha22⟩⟩; show CW _ _ _ _ [(11, .int .i64 (j : Nat)), (5, .slice la ln lc), (1, _), (2, _), (6, _), (7, _), (8, _), (9, _)] _
     try dsimp only at hj
     try dsimp only at heat
     try dsimp only at hln2
     try dsimp only at hbd2
     try dsimp only at hol2
     try dsimp only at hnw
     try dsimp only at hgo2
     try dsimp only at hb22
     try dsimp only at hap2
     try dsimp only at ha22
     refine cw_seq ?_; refine cw_seq ?_; refine cw_region ?_; refine wl_m ?_; refine wl_m ?_; refine wl_val rfl (ex_len_slice rfl Try.underlying46 rfl) ?_; refine wl_val rfl (ex_lss rfl rfl) ?_; refine wl_nil (nrm_then ?_); refine cw_if rfl (fun hc54 => ?_) (fun hc54 => ?_)
     ·skip
      have hj' : j < now.length := by omega
      have hnj : now[j] < l.length := hnr _ (List.getElem_mem hj'); obtain ⟨bP, oP, vsP, rfl, hbP, -, hcP, vr, rfl, hrr, hrl⟩ := e1 now[j] hnj; obtain ⟨gN, rfl, hcN⟩ := own_ints hnw (by omega); have hc0 : l[now[j]]? = some l[now[j]] := List.getElem?_eq_getElem hnj; have hone := hrr.one; refine cw_skip (nrm_then ?_); refine cw_seq ?_; refine cw_block ?_; refine cw_seq ?_; refine cw_any (fun w0 w' => Evo [] w0 w') (by kernel_rfl) (fun w51 hw52 => ?_); have hE53 := hV50.then hw52; have hO54 := hol2.evo0 hw52; have hB55 := hw52.blk0 hb22; have hO56 := hnw.evo0 hw52; refine ae_take 0 rfl (by kernel_rfl) (by kernel_rfl) (by kernel_rfl) rfl (fun _ hS => ex_fieldAddr rfl Try.fld29_0) (Evo.refl [] w51) ?_; refine ae_take 1 rfl (by kernel_rfl) (by kernel_rfl) (by kernel_rfl) rfl (fun _ hS => ex_load1 rfl Try.agg26 (cell_nth (hS.blk0 hB55) rfl)) (Evo.refl [] w51) ?_; refine ae_take 2 rfl (by kernel_rfl) (by kernel_rfl) (by kernel_rfl) rfl (fun _ hS => ex_move rfl) (Evo.refl [] w51) ?_; refine ae_take 3 rfl (by kernel_rfl) (by kernel_rfl) (by kernel_rfl) rfl (fun _ hS => ex_move rfl) (Evo.refl [] w51) ?_; refine ae_take 4 rfl (by kernel_rfl) (by kernel_rfl) (by kernel_rfl) rfl (fun _ hS => ex_indexAddr (n := j) rfl rfl Try.elem46 hj') (Evo.refl [] w51) ?_; refine ae_take 5 rfl (by kernel_rfl) (by kernel_rfl) (by kernel_rfl) rfl (fun _ hS => ex_load1 rfl Try.agg3 ((own_ints_at (hO56.evo0 hS) rfl) j hj')) (Evo.refl [] w51) ?_; refine ae_take 6 rfl (by kernel_rfl) (by kernel_rfl) (by kernel_rfl) rfl (fun _ hS => ex_indexAddr (n := now[j]) rfl rfl Try.elem26 hnj) (Evo.refl [] w51) ?_; refine ae_take 7 rfl (by kernel_rfl) (by kernel_rfl) (by kernel_rfl) rfl (fun _ hS => ex_loadA rfl Try.agg44 Try.size44 (vs := [_, _, _, _, _]) rfl (hcP.evo (hE53.then hS) hbP)) (Evo.refl [] w51) ?_
      refine ae_loud [8] (by kernel_rfl) rfl ⟨?_, trivial⟩; refine a_step rfl ?_; refine wl_alloc rfl Try.zero44 fun b12 w57 hB58 hs59 hw60 => ?_; have hsz_b12 := hs59; have hA61 := Apart.new (Lt.own hO54) hs59; have hA62 := Apart.new (Lt.blk hB55) hs59; have hA63 := Apart.new (Lt.own hO56) hs59; have hG64 := Ge.new hE53 hs59; have hG65 := Ge.new (Evo.refl [] w51) hs59; have hE66 := hE53.then hw60; have hE67 := (Evo.refl [] w51).then hw60; have hO68 := hO54.evo0 hw60; have hB69 := hw60.blk0 hB55; have hO70 := hO56.evo0 hw60; refine wl_nil (ae_next (.inl hE67) ?_); refine ae_loud [9] (by kernel_rfl) rfl ⟨?_, trivial⟩; refine a_step rfl ?_; refine wl_storeBlk rfl rfl Try.size44 hB58 rfl rfl ⟨by first | rfl | assumption, by first | rfl | assumption, by first | rfl | assumption, by first | rfl | assumption, by first | rfl | assumption, trivial⟩ fun w71 hB72 hw73 => ?_; have hE74 := hE66.step hw73 hG64.mem1; have hE75 := hE67.step hw73 hG65.mem1; have hO76 := hO68.evo hw73 hA61.own1; have hB77 := hw73.blk hB69 hA62.nmem1; have hO78 := hO70.evo hw73 hA63.own1
      try simp only [List.setIfInBounds_toArray, List.set_cons_zero, List.set_cons_succ, Nat.reduceAdd, Nat.zero_add, Nat.add_zero] at hB72
      refine wl_nil (ae_next (.inr (by kernel_rfl)) ?_); refine ae_done (by kernel_rfl) (nrm_then ?_); refine cw_seq ?_; refine cw_seq ?_; refine cw_region ?_; refine wl_val rfl (ex_fieldAddr rfl Try.fld44_0) ?_; refine wl_val rfl (ex_load1 rfl Try.agg3 (cell_nth hB72 rfl)) ?_; refine wl_val rfl (ex_neq rfl rfl) ?_; refine wl_nil (nrm_then ?_); refine cw_if rfl (fun hc67 => ?_) (fun hc67 => ?_)
      ·skip
       refine cw_exit (ex_then (ex_here (nrm_then ?_))); refine cw_region ?_; refine wl_m ?_; refine wl_val rfl (ex_add_i64 rfl rfl (by omega) (by omega)) ?_; refine wl_a ?_; refine wl_nil (nrm_same ?_); refine ⟨⟨j + 1, ls, ln, la, lc, lo⟩, ?_, ⟨rfl, rfl, trivial⟩, ⟨rfl, rfl, rfl, rfl, rfl, rfl, trivial⟩, hE74, ?_⟩
       · (try dsimp only); omega
       ·skip
        try dsimp only
        exact ⟨by show j + 1 ≤ now.length; omega, eat_skip heat hj' (fun q h => hc67 ((eat_at hc0).1 h).1), hln2, by show ln ≤ j + 1; omega, hO76, hO78, hgo2, hB77, hap2, ha22⟩
      ·skip
       obtain ⟨ra, rc, rfl, hrc, e2⟩ := hrr; refine cw_skip (nrm_then ?_); refine cw_seq ?_; refine cw_region ?_; refine wl_a ?_; refine wl_nil (nrm_then ?_); refine cw_block ?_; refine cw_loop (α := Nat) (0) (fun r => [(13, .int .i64 (r : Nat)), (5, .slice la ln lc)]) [(1, _), (2, _), (6, _), (7, _), (8, _), (9, _), (11, _), (12, _)] (fun r wr => Evo [] w71 wr ∧ (r ≤ l[now[j]].rs.length ∧ ∀ i (h : i < l[now[j]].rs.length), i < r → ¬ (l[now[j]].rs[i].1 ≤ (runeAtR s (offs s k)).1 ∧ (runeAtR s (offs s k)).1 ≤ l[now[j]].rs[i].2))) (fun r => l[now[j]].rs.length - r) ⟨rfl, rfl, trivial⟩ ⟨rfl, rfl, rfl, rfl, rfl, rfl, rfl, rfl, trivial⟩ ⟨Evo.refl _ _, ⟨Nat.zero_le _, fun i _ h => by omega⟩⟩ ?_; rintro r wr79 ⟨hV80, ⟨hr, hnr2⟩⟩; show CW _ _ _ _ [(13, _), (5, _), (1, _), (2, _), (6, _), (7, _), (8, _), (9, _), (11, _), (12, _)] _; have hE81 := hE74.then hV80; have hO82 := hO76.evo0 hV80; have hB83 := hV80.blk0 hB77; have hO84 := hO78.evo0 hV80; have hB85 := hV80.blk0 hB72; refine cw_seq ?_; refine cw_seq ?_; refine cw_region ?_; refine wl_m ?_; refine wl_val rfl (ex_fieldAddr rfl Try.fld44_4) ?_; refine wl_val rfl (ex_load1 rfl Try.agg22 (cell_nth hB85 rfl)) ?_; refine wl_val rfl (ex_len_slice rfl Try.underlying22 rfl) ?_; refine wl_val rfl (ex_lss rfl rfl) ?_; refine wl_nil (nrm_then ?_); refine cw_if rfl (fun hc72 => ?_) (fun hc72 => ?_)
       ·skip
        have hr' : r < l[now[j]].rs.length := by omega
        obtain ⟨bR, oR, vsR, haR, hbR, -, hcR, rfl⟩ := e2 r hr'; refine cw_skip (nrm_then ?_); refine cw_seq ?_; refine cw_block ?_; refine cw_seq ?_; refine cw_region ?_; refine wl_val rfl (ex_fieldAddr rfl Try.fld44_4) ?_; refine wl_val rfl (ex_load1 rfl Try.agg22 (cell_nth hB85 rfl)) ?_; refine wl_m ?_
        refine wl_val rfl (ex_indexAddr (n := r) (by rw [haR]; rfl) rfl Try.elem22 (by omega)) ?_
        refine wl_val rfl (ex_fieldAddr rfl Try.fld51_0) ?_; refine wl_val rfl (ex_load1 rfl Try.agg21 ((hcR.evo hE81 (by simp)) 0 _ rfl)) ?_; refine wl_m ?_; refine wl_val rfl (ex_leq rfl rfl) ?_; refine wl_m ?_; refine wl_split (t := 83) rfl (fun hs83 => ?_) (fun hs83 => ?_)
        ·skip
         refine wl_g ?_; refine wl_m ?_; refine wl_g ?_; refine wl_val rfl (ex_fieldAddr rfl Try.fld44_4) ?_; refine wl_g ?_; refine wl_val rfl (ex_load1 rfl Try.agg22 (cell_nth hB85 rfl)) ?_; refine wl_g ?_; refine wl_m ?_; refine wl_g ?_
         refine wl_val rfl (ex_indexAddr (n := r) (by rw [haR]; rfl) rfl Try.elem22 (by omega)) ?_
         refine wl_g ?_; refine wl_val rfl (ex_fieldAddr rfl Try.fld51_1) ?_; refine wl_g ?_; refine wl_val rfl (ex_load1 rfl Try.agg21 ((hcR.evo hE81 (by simp)) 1 _ rfl)) ?_; refine wl_g ?_; refine wl_val rfl (ex_leq rfl rfl) ?_; refine wl_pt ?_; refine wl_nil (nrm_then ?_); refine cw_if rfl (fun hc92 => ?_) (fun hc92 => ?_)
         ·skip
          refine cw_seq ?_; refine cw_region ?_; refine wl_m ?_; refine wl_val rfl (ex_fieldAddr rfl Try.fld44_1) ?_; refine wl_val rfl (ex_load1 rfl Try.agg3 (cell_nth hB85 rfl)) ?_; refine wl_bslice (vs := [_]) rfl Try.slice46 rfl rfl rfl rfl fun b86 w87 hO88 hs89 hw90 => ?_; have hA91 := Apart.new (Lt.own hO82) hs89; have hA92 := Apart.new (Lt.blk hB83) hs89; have hA93 := Apart.new (Lt.own hO84) hs89; have hA94 := Apart.new (Lt.blk hB85) hs89; have hG95 := Ge.new hE81 hs89; have hG96 := Ge.new hV80 hs89; have hE97 := hE81.then hw90; have hE98 := hV80.then hw90; have hO99 := hO82.evo0 hw90; have hB100 := hw90.blk0 hB83; have hO101 := hO84.evo0 hw90; have hB102 := hw90.blk0 hB85; have hszb := (hE97).size; refine wl_append rfl rfl rfl rfl Try.app46_46 hO99 (Src.ofOwn hO88 ⟨by first | rfl | assumption, trivial⟩) (by omega) fun la2 lc2 w105 lo2 hLo2 hw108 hob109 => ?_; have hA110 := hap2.app (Lt.blk hB100) hob109; have hA111 := ha22.app (Lt.own hO101) hob109; have hA112 := hA61.symm.app (Lt.blk hB102) hob109; have hA113 := hA91.symm.app (Lt.own hO88) hob109; have hG114 := hgo2.app hE97 hob109; have hE115 := hE97.step hw108 hgo2.mem; have hB117 := hw108.blk hB100 hap2.nmem; have hO118 := hO101.evo hw108 ha22.own; have hB119 := hw108.blk hB102 hA61.symm.nmem; have hO120 := hO88.evo hw108 hA91.symm.own; refine wl_a ?_; refine wl_nil (nrm_then ?_); refine cw_exit (ex_past rfl (ex_then (ex_then (ex_here (nrm_block (nrm_then ?_)))))); refine cw_region ?_; refine wl_m ?_; refine wl_val rfl (ex_add_i64 rfl rfl (by omega) (by omega)) ?_; refine wl_a ?_; refine wl_nil (nrm_same ?_); refine ⟨⟨j + 1, ls ++ [l[now[j]].out.toNat], ln + 1, la2, lc2, lo2⟩, ?_, ⟨rfl, rfl, trivial⟩, ⟨rfl, rfl, rfl, rfl, rfl, rfl, trivial⟩, hE115, ?_⟩
          · (try dsimp only); omega
          ·skip
           try dsimp only
           have hop : l[now[j]].op = 2 := by omega
           have hin : InR (nextR s (offs s k)).1 l[now[j]].rs := ⟨l[now[j]].rs[r], List.getElem_mem hr', by omega, by omega⟩; have hout := (hR _ _ hc0).eat hop ⟨_, hin⟩
           have heq : ∀ q, EatB l s (offs s k) now[j] q ↔ q = l[now[j]].out.toNat := fun q => by rw [eat_at hc0]; constructor; (rintro ⟨-, h, -⟩; omega); (intro h; exact ⟨hop, by omega, hi2, hin⟩)
           have hL2' : OwnS w105 3 1 la2 (ln + 1) lc2 (ivs (ls ++ [l[now[j]].out.toNat])) lo2 := by have h := hLo2; rw [show ivs (ls ++ [l[now[j]].out.toNat]) = ivs ls ++ [iv l[now[j]].out] from ivs_snoc (by omega)]; exact h
           exact ⟨by show j + 1 ≤ now.length; omega, eat_more heat hj' heq, by show ln + 1 = (ls ++ [_]).length; rw [List.length_append, hln2]; rfl, by show ln + 1 ≤ j + 1; omega, hL2', hO118, hG114, hB117, hA110, hA111⟩
         ·skip
          refine cw_skip (nrm_block (nrm_then ?_)); refine cw_region ?_; refine wl_m ?_; refine wl_val rfl (ex_add_i64 rfl rfl (by omega) (by omega)) ?_; refine wl_a ?_; refine wl_nil (nrm_same ?_); refine ⟨r + 1, ?_, ⟨rfl, rfl, trivial⟩, ⟨rfl, rfl, rfl, rfl, rfl, rfl, rfl, rfl, trivial⟩, hV80, ?_⟩
          · omega
          ·skip
           refine ⟨by omega, fun i hi hir hh => ?_⟩
           by_cases e : i < r
           · exact hnr2 i hi e hh
           · obtain rfl : i = r := by omega
             omega
        ·skip
         refine wl_n ?_; refine wl_n ?_; refine wl_n ?_; refine wl_n ?_; refine wl_n ?_; refine wl_n ?_; refine wl_n ?_; refine wl_n ?_; refine wl_pf ?_; refine wl_nil (nrm_then ?_); refine cw_false rfl ?_; refine cw_skip (nrm_block (nrm_then ?_)); refine cw_region ?_; refine wl_m ?_; refine wl_val rfl (ex_add_i64 rfl rfl (by omega) (by omega)) ?_; refine wl_a ?_; refine wl_nil (nrm_same ?_); refine ⟨r + 1, ?_, ⟨rfl, rfl, trivial⟩, ⟨rfl, rfl, rfl, rfl, rfl, rfl, rfl, rfl, trivial⟩, hV80, ?_⟩
         · omega
         ·skip
          refine ⟨by omega, fun i hi hir hh => ?_⟩
          by_cases e : i < r
          · exact hnr2 i hi e hh
          · obtain rfl : i = r := by omega
            omega
       ·skip
        refine cw_exit (ex_then (ex_then (ex_here (nrm_block (nrm_then ?_))))); refine cw_region ?_; refine wl_m ?_; refine wl_val rfl (ex_add_i64 rfl rfl (by omega) (by omega)) ?_; refine wl_a ?_; refine wl_nil (nrm_same ?_); refine ⟨⟨j + 1, ls, ln, la, lc, lo⟩, ?_, ⟨rfl, rfl, trivial⟩, ⟨rfl, rfl, rfl, rfl, rfl, rfl, trivial⟩, hE81, ?_⟩
        · (try dsimp only); omega
        ·skip
         try dsimp only
         have hno : ¬ InR (nextR s (offs s k)).1 l[now[j]].rs := not_inR (fun i hi => by rw [← hi3]; exact hnr2 i hi (by omega))
         exact ⟨by show j + 1 ≤ now.length; omega, eat_skip heat hj' (fun q h => hno ((eat_at hc0).1 h).2.2.2), hln2, by show ln ≤ j + 1; omega, hO82, hO84, hgo2, hB83, hap2, ha22⟩
     ·skip
      refine cw_exit (ex_then (ex_then (ex_here (nrm_then ?_)))); refine cw_region ?_; refine wl_m ?_; refine wl_m ?_
      refine wl_val rfl (ex_add_i64 rfl rfl (by have := next_byte hi2; omega) (by have := next_byte hi2; omega)) ?_
      rw [show ((offs s k : Nat) : Int) + (runeAtR s (offs s k)).2 = ((offs s (k + 1) : Nat) : Int) from by rw [hi4]; rfl]
      refine wl_a ?_; refine wl_nil (nrm_block (nrm_same ?_)); refine ⟨⟨k + 1, ls, ln, la, lc, lo⟩, ?_, ⟨rfl, rfl, trivial⟩, ⟨rfl, rfl, trivial⟩, hV50, ?_⟩
      · (try dsimp only); rw [show offs s (k + 1) = offs s k + (nextR s (offs s k)).2 from rfl]; omega
      ·skip
       try dsimp only
       obtain rfl : j = now.length := by omega
       refine ⟨fun j hj => ?_, front_next hwb heat, fun q hq => ?_, hln2, by show ln ≤ 10000; omega, hol2, hgo2, hb22, hap2⟩
       · by_cases e : j < k
         · exact hw j e
         · obtain rfl : j = k := by have : j < k + 1 := hj; omega
           exact hi2
       · obtain ⟨i, hi, -, he⟩ := (heat q).1 hq
         have hni := hnr _ (List.getElem_mem hi); have h2 := (eat_at (List.getElem?_eq_getElem hni)).1 he; have h3 := (hR _ _ (List.getElem?_eq_getElem hni)).eat h2.1 ⟨_, h2.2.2.2⟩; omega
end Go.Proofs.Ytgboffefbpligaa
namespace Go.Proofs.Ytgboffefbpligaa
open Go.Proofs
open Go.W Go.RowKit
attribute [local irreducible] Decidable.decide
set_option linter.unusedSimpArgs false
set_option linter.unusedVariables false
theorem Try.slice58 : sliceB Try.prog 58 = some (21, 1) := by kernel_rfl
abbrev i32s (l : List Int) : List Value := l.map fun c => Value.int .i32 c
theorem utf_uniq {s : ByteArray} {K N : Nat} (hw : ∀ j, j < K → 0 < (nextR s (offs s j)).2) (he : offs s K = s.size ∨ (nextR s (offs s K)).2 = 0) (hU : Utf s N) : K = N := by
  rcases Nat.lt_trichotomy K N with h | h | h
  · have h1 := hU.2 K h
    have h2 := offs_lt hU.2 h (Nat.le_refl _)
    rw [hU.1] at h2
    omega
  · exact h
  · have h1 := hw N h
    rw [hU.1, next_out (Nat.le_refl _)] at h1
    cases h1
theorem runesK_succ (s : ByteArray) (k : Nat) : runesK s (k + 1) = runesK s k ++ [(nextR s (offs s k)).1] := by
  unfold runesK; rw [List.range_succ, List.map_append]; rfl
end Go.Proofs.Ytgboffefbpligaa
namespace Go.Proofs.Ytgboffefbpligaa
open Go.W Go.RowKit
set_option linter.unusedVariables false
set_option linter.unusedSimpArgs false
open Classical in
noncomputable def tf (p : Prop) : Bool := decide p
theorem tf_iff {p : Prop} : tf p = true ↔ p := by unfold tf; simp
theorem tf_no {p : Prop} : tf p = false ↔ ¬ p := by unfold tf; simp
theorem tf_congr {p q : Prop} (h : p ↔ q) : tf p = tf q := by rw [Bool.eq_iff_iff, tf_iff, tf_iff]; exact h
instance (c : Int) : Decidable (wordI c) := by unfold wordI; infer_instance
end Go.Proofs.Ytgboffefbpligaa
namespace Go.Proofs.Ytgboffefbpligaa
open Go.Proofs
open Go.W Go.RowKit
attribute [local irreducible] Decidable.decide
set_option linter.unusedSimpArgs false
set_option linter.unusedVariables false
theorem Try.build25 : Build Try.prog 25 #[(0, 1), (1, 1), (2, 1), (3, 1), (4, 1), (5, 1), (6, 1), (7, 1), (8, 1)] #[.int .i64 0, .int .i32 0, .slice none 0 0, .int .i64 0, .int .i64 0, .bool false, .int .i64 0, .string ByteArray.empty, .slice none 0 0] := ⟨_, .agg #[.int .i64 0, .int .i32 0, .slice none 0 0, .int .i64 0, .int .i64 0, .bool false, .int .i64 0, .string ByteArray.empty, .slice none 0 0], Try.underlying25, by kernel_rfl, rfl, fun w => by kernel_rfl⟩
theorem Try.goes20 : Goes Try.prog 20 := ⟨_, Try.func20, by kernel_rfl, by kernel_rfl⟩
theorem Try.zero3 : zeroB Try.prog 3 = some #[.int .i64 0] := by kernel_rfl
def litX (r : Int) : Rx := .mk 2 r [] 0 0 false 0 (ByteArray.mk #[]) []
abbrev litV (r : Int) : List Value := [iv 2, .int .i32 r, .slice none 0 0, iv 0, iv 0, .bool false, iv 0, .string (ByteArray.mk #[]), .slice none 0 0]
theorem litX_rx (r : Int) (X : List Nat) (w : World) : RRx 1 X w (litV r) (litX r) := ⟨_, _, rfl, rnil0, rnil0, Nat.zero_le _, Nat.zero_le _, Nat.zero_le _⟩
theorem litX_ok {r : Int} (h0 : 0 ≤ r) (h1 : r ≤ 1114111) : (litX r).Ok := by
  have hp : NodeP (litX r) := ⟨by show (1 : Int) ≤ 2; decide, by show (2 : Int) ≤ 13; decide, .inl rfl, .inr rfl, .inr ⟨rfl, rfl, rfl⟩, .inr ⟨rfl, rfl⟩, fun _ => ⟨h0, h1⟩, fun h => absurd (show (2 : Int) = 3 from h) (by decide), fun h => absurd (show (2 : Int) = 4 ∨ (2 : Int) = 5 from h) (by decide), fun h => absurd (show (2 : Int) = 6 from h) (by decide), fun h => absurd (show (2 : Int) = 7 from h) (by decide), fun _ => rfl⟩
  refine ⟨(1, []), ?_⟩
  rw [fine_yes (x := litX r) (b := 0) (st := (0, [])) ⟨by decide, by show (if (2 : Int) = 7 then _ else _) ≤ 250; decide, hp, fun h => absurd (show (2 : Int) = 7 from h) (by decide)⟩]
  show fineKids [] _ _ _ = _
  rw [fineKids]
  rfl
theorem lit_ok {w : World} (r : Int) : Calls Try.prog 7 #[.int .i32 r] w (Ret fun v w' => v = .agg (litV r).toArray ∧ Evo [] w w') := by
  refine calls_of_cw (N := 5) Try.func7 rfl rfl rfl ?_; refine cw_seq ?_; refine cw_region ?_; refine wl_alloc rfl Try.zero25 fun b1 w2 hB3 hs4 hw5 => ?_; have hG6 := Ge.new (Evo.refl [] w) hs4; have hE7 := (Evo.refl [] w).then hw5; refine wl_nil (nrm_then ?_); refine cw_seq ?_; refine cw_region ?_; refine wl_m ?_; refine wl_val rfl (ex_build (vs := [(0, _), (1, _)]) Try.build25 rfl (cells := [_, _, _, _, _, _, _, _, _]) rfl) ?_; refine wl_storeBlk rfl rfl Try.size25 hB3 rfl rfl ⟨by first | rfl | assumption, by first | rfl | assumption, by first | rfl | assumption, by first | rfl | assumption, by first | rfl | assumption, by first | rfl | assumption, by first | rfl | assumption, by first | rfl | assumption, by first | rfl | assumption, trivial⟩ fun w8 hB9 hw10 => ?_; have hE11 := hE7.step hw10 hG6.mem1; refine wl_nil (nrm_then ?_); refine cw_ret (body_retC1 rfl (ResOk.cellA rfl Try.agg25 Try.size25 hB9 rfl) ?_); exact ⟨rfl, hE11⟩
set_option maxHeartbeats 4000000 in
theorem counted_step {n : Nat} (ih : ∀ {w : World} {bc : Nat} {k : Int} {vs : List Value} {t : Rx} (hB : w.heap[bc]? = some (.cells #[iv k] 3 (0, 0))) (h0 : 0 ≤ k) (h1 : k ≤ 200000) (hx : RRx n [bc] w vs t), Calls Try.prog 20 #[.agg vs.toArray, .pointer (some ⟨bc, 0, none⟩)] w (Ret fun v w' => ∃ bv k', v = .bool bv ∧ 0 ≤ k' ∧ k' ≤ 200001 ∧ w'.heap[bc]? = some (.cells #[iv k'] 3 (0, 0)) ∧ Evo [bc] w w')) {w : World} {bc : Nat} {k : Int} {vs : List Value} {t : Rx} (hB : w.heap[bc]? = some (.cells #[iv k] 3 (0, 0))) (h0 : 0 ≤ k) (h1 : k ≤ 200000) (hx : RRx (n + 1) [bc] w vs t) : Calls Try.prog 20 #[.agg vs.toArray, .pointer (some ⟨bc, 0, none⟩)] w (Ret fun v w' => ∃ bv k', v = .bool bv ∧ 0 ≤ k' ∧ k' ≤ 200001 ∧ w'.heap[bc]? = some (.cells #[iv k'] 3 (0, 0)) ∧ Evo [bc] w w') := by
  have hx0 := hx; obtain ⟨m, xa, xc, ka, kc, hm, rfl, hrg, hk, bl1, bl2, bl3⟩ := hx.get
  obtain rfl : m = n := by omega
  obtain ⟨_, _, hke, hkc, e1⟩ := hk; cases hke; refine calls_of_cw (N := 41) Try.func20 rfl rfl rfl ?_; refine cw_seq ?_; refine cw_region ?_; refine wl_boxA rfl rfl fun b2 w1 hB2 hs3 hw4 => ?_; have hsz_b2 := hs3; have hA5 := Apart.new (Lt.blk hB) hs3; have hG6 := Ge.new (Evo.refl [bc] w) hs3; have hE7 := (Evo.refl [bc] w).then hw4; have hB8 := hw4.blk0 hB; have hA2c := hA5.symm; refine wl_a ?_; refine wl_nil (nrm_then ?_); refine cw_seq ?_; refine cw_region ?_; refine wl_m ?_; refine wl_val rfl (ex_nilCheck rfl) ?_; refine wl_val rfl (ex_load1 rfl Try.agg3 (cell_nth hB8 rfl)) ?_; refine wl_val rfl (ex_add_i64 rfl rfl (by omega) (by omega)) ?_; refine wl_val rfl (ex_nilCheck rfl) ?_; refine wl_store1 rfl rfl (by first | rfl | assumption) Try.size3 hB8 rfl fun w9 hB10 hw11 => ?_; have hE12 := hE7.step hw11 (fun y hy => .inl hy); have hB13 := hw11.blk hB2 hA5.symm.nmem1
  try simp only [List.setIfInBounds_toArray, List.set_cons_zero, List.set_cons_succ, Nat.reduceAdd, Nat.zero_add, Nat.add_zero] at hB10
  refine wl_nil (nrm_then ?_); refine cw_seq ?_; refine cw_seq ?_; refine cw_region ?_; refine wl_val rfl (ex_fieldAddr rfl Try.fld25_2) ?_; refine wl_val rfl (ex_load1 rfl Try.agg22 (cell_nth hB13 rfl)) ?_; refine wl_val rfl (ex_len_slice rfl Try.underlying22 rfl) ?_; refine wl_val rfl (ex_gtr rfl rfl) ?_; refine wl_nil (nrm_then ?_); refine cw_if rfl (fun hc14 => ?_) (fun hc14 => ?_)
  ·skip
   refine cw_region ?_; refine wl_m ?_; refine wl_val rfl (ex_nilCheck rfl) ?_; refine wl_store1 rfl rfl (by first | rfl | assumption) Try.size3 hB10 rfl fun w14 hB15 hw16 => ?_; have hE17 := hE12.step hw16 (fun y hy => .inl hy); have hB18 := hw16.blk hB13 hA5.symm.nmem1
   try simp only [List.setIfInBounds_toArray, List.set_cons_zero, List.set_cons_succ, Nat.reduceAdd, Nat.zero_add, Nat.add_zero] at hB15
   refine wl_nil (nrm_then ?_); refine cw_seq ?_; refine cw_seq ?_; refine cw_region ?_; refine wl_a ?_; refine wl_nil (nrm_then ?_); refine cw_block ?_; refine cw_loop (α := Nat × Int) ((0, _)) (fun x => [(5, .int .i64 (x.1 : Nat))]) [(1, _), (2, _), (4, _)] (fun x wr => Evo [bc] w wr ∧ (x.1 ≤ t.kids.length ∧ 0 ≤ x.2 ∧ x.2 ≤ 200001 ∧ wr.heap[bc]? = some (.cells #[iv x.2] 3 (0, 0)) ∧ wr.heap[b2]? = some (.cells #[iv t.kind, .int .i32 t.r, .slice xa t.ranges.length xc, iv t.min, iv t.max, .bool t.lazy, iv t.cap, .string t.name, .slice ka t.kids.length kc] 25 (0, 0)))) (fun x => t.kids.length - x.1) ⟨rfl, trivial⟩ ⟨rfl, rfl, rfl, trivial⟩ ⟨hE17, ⟨Nat.zero_le _, by omega, by omega, hB15, hB18⟩⟩ ?_; rintro ⟨j, q⟩ wr19 ⟨hV20, ⟨hj, hq0, hq1, hBC, hb2⟩⟩; show CW _ _ _ _ [(5, .int .i64 (j : Nat)), (1, _), (2, _), (4, _)] _
   try dsimp only at hj
   try dsimp only at hq0
   try dsimp only at hq1
   try dsimp only at hBC
   try dsimp only at hb2
   refine cw_seq ?_; refine cw_seq ?_; refine cw_region ?_; refine wl_m ?_; refine wl_val rfl (ex_fieldAddr rfl Try.fld25_8) ?_; refine wl_val rfl (ex_load1 rfl Try.agg23 (cell_nth hb2 rfl)) ?_; refine wl_val rfl (ex_len_slice rfl Try.underlying23 rfl) ?_; refine wl_val rfl (ex_lss rfl rfl) ?_; refine wl_m ?_; refine wl_split (t := 22) rfl (fun hs22 => ?_) (fun hs22 => ?_)
   ·skip
    refine wl_g ?_; refine wl_m ?_; refine wl_g ?_; refine wl_val rfl (ex_nilCheck rfl) ?_; refine wl_g ?_; refine wl_val rfl (ex_load1 rfl Try.agg3 (cell_nth hBC rfl)) ?_; refine wl_g ?_; refine wl_val rfl (ex_leq rfl rfl) ?_; refine wl_pt ?_; refine wl_nil (nrm_then ?_); refine cw_if rfl (fun hc27 => ?_) (fun hc27 => ?_)
    ·skip
     have hj' : j < t.kids.length := by omega
     obtain ⟨b1, o1, vs1, ha1, hb1, hvl1, hc1, hrk⟩ := e1 j hj'; obtain ⟨m1, ra1, rc1, ka1, kc1, rfl, rfl, -⟩ := id hrk.get; refine cw_skip (nrm_then ?_); refine cw_seq ?_; refine cw_block ?_; refine cw_region ?_; refine wl_val rfl (ex_fieldAddr rfl Try.fld25_8) ?_; refine wl_val rfl (ex_load1 rfl Try.agg23 (cell_nth hb2 rfl)) ?_; refine wl_m ?_
     refine wl_val rfl (ex_indexAddr (n := j) (by rw [ha1]; rfl) rfl Try.elem23 (by omega)) ?_
     refine wl_val rfl (ex_loadA rfl Try.agg25 Try.size25 (vs := [_, _, _, _, _, _, _, _, _]) rfl (hc1.evo hV20 hb1)) ?_; refine wl_m ?_; refine wl_call1 (vs := [_, _]) Try.goes20 rfl (ih hBC (by omega) (by omega) (RRx.pers _ _ _ _ _ _ hV20 hrk)) rfl ?_; rintro _ w21 ⟨bv2, k2, rfl, hk20, hk21, hBk, hw22⟩; have hE23 := hV20.step hw22 (fun y hy => .inl hy); have hB24 := hw22.blk hb2 (hA2c.nmem1); refine wl_nil (nrm_block (nrm_then ?_)); refine cw_region ?_; refine wl_m ?_; refine wl_val rfl (ex_add_i64 rfl rfl (by omega) (by omega)) ?_; refine wl_a ?_; refine wl_nil (nrm_same ?_); refine ⟨(j + 1, k2), ?_, ⟨rfl, trivial⟩, ⟨rfl, rfl, rfl, trivial⟩, hE23, ?_⟩
     · (try dsimp only); omega
     ·skip
      try dsimp only
      exact ⟨by omega, hk20, hk21, hBk, hB24⟩
    ·skip
     refine cw_exit (ex_then (ex_then (ex_here (nrm_then ?_)))); refine cw_seq ?_; refine cw_region ?_; refine wl_m ?_; refine wl_val rfl (ex_nilCheck rfl) ?_; refine wl_val rfl (ex_load1 rfl Try.agg3 (cell_nth hBC rfl)) ?_; refine wl_val rfl (ex_leq rfl rfl) ?_; refine wl_a ?_; refine wl_nil (nrm_then ?_); refine cw_ret (body_ret1 rfl rfl ?_); exact ⟨_, q, rfl, hq0, hq1, hBC, hV20⟩
   ·skip
    refine wl_n ?_; refine wl_n ?_; refine wl_n ?_; refine wl_n ?_; refine wl_pf ?_; refine wl_nil (nrm_then ?_); refine cw_false rfl ?_; refine cw_exit (ex_then (ex_then (ex_here (nrm_then ?_)))); refine cw_seq ?_; refine cw_region ?_; refine wl_m ?_; refine wl_val rfl (ex_nilCheck rfl) ?_; refine wl_val rfl (ex_load1 rfl Try.agg3 (cell_nth hBC rfl)) ?_; refine wl_val rfl (ex_leq rfl rfl) ?_; refine wl_a ?_; refine wl_nil (nrm_then ?_); refine cw_ret (body_ret1 rfl rfl ?_); exact ⟨_, q, rfl, hq0, hq1, hBC, hV20⟩
  ·skip
   refine cw_skip (nrm_then ?_); refine cw_seq ?_; refine cw_seq ?_; refine cw_region ?_; refine wl_a ?_; refine wl_nil (nrm_then ?_); refine cw_block ?_; refine cw_loop (α := Nat × Int) ((0, _)) (fun x => [(5, .int .i64 (x.1 : Nat))]) [(1, _), (2, _), (4, _)] (fun x wr => Evo [bc] w wr ∧ (x.1 ≤ t.kids.length ∧ 0 ≤ x.2 ∧ x.2 ≤ 200001 ∧ wr.heap[bc]? = some (.cells #[iv x.2] 3 (0, 0)) ∧ wr.heap[b2]? = some (.cells #[iv t.kind, .int .i32 t.r, .slice xa t.ranges.length xc, iv t.min, iv t.max, .bool t.lazy, iv t.cap, .string t.name, .slice ka t.kids.length kc] 25 (0, 0)))) (fun x => t.kids.length - x.1) ⟨rfl, trivial⟩ ⟨rfl, rfl, rfl, trivial⟩ ⟨hE12, ⟨Nat.zero_le _, by omega, by omega, hB10, hB13⟩⟩ ?_; rintro ⟨j, q⟩ wr25 ⟨hV26, ⟨hj, hq0, hq1, hBC, hb2⟩⟩; show CW _ _ _ _ [(5, .int .i64 (j : Nat)), (1, _), (2, _), (4, _)] _
   try dsimp only at hj
   try dsimp only at hq0
   try dsimp only at hq1
   try dsimp only at hBC
   try dsimp only at hb2
   refine cw_seq ?_; refine cw_seq ?_; refine cw_region ?_; refine wl_m ?_; refine wl_val rfl (ex_fieldAddr rfl Try.fld25_8) ?_; refine wl_val rfl (ex_load1 rfl Try.agg23 (cell_nth hb2 rfl)) ?_; refine wl_val rfl (ex_len_slice rfl Try.underlying23 rfl) ?_; refine wl_val rfl (ex_lss rfl rfl) ?_; refine wl_m ?_; refine wl_split (t := 22) rfl (fun hs22 => ?_) (fun hs22 => ?_)
   ·skip
    refine wl_g ?_; refine wl_m ?_; refine wl_g ?_; refine wl_val rfl (ex_nilCheck rfl) ?_; refine wl_g ?_; refine wl_val rfl (ex_load1 rfl Try.agg3 (cell_nth hBC rfl)) ?_; refine wl_g ?_; refine wl_val rfl (ex_leq rfl rfl) ?_; refine wl_pt ?_; refine wl_nil (nrm_then ?_); refine cw_if rfl (fun hc27 => ?_) (fun hc27 => ?_)
    ·skip
     have hj' : j < t.kids.length := by omega
     obtain ⟨b1, o1, vs1, ha1, hb1, hvl1, hc1, hrk⟩ := e1 j hj'; obtain ⟨m1, ra1, rc1, ka1, kc1, rfl, rfl, -⟩ := id hrk.get; refine cw_skip (nrm_then ?_); refine cw_seq ?_; refine cw_block ?_; refine cw_region ?_; refine wl_val rfl (ex_fieldAddr rfl Try.fld25_8) ?_; refine wl_val rfl (ex_load1 rfl Try.agg23 (cell_nth hb2 rfl)) ?_; refine wl_m ?_
     refine wl_val rfl (ex_indexAddr (n := j) (by rw [ha1]; rfl) rfl Try.elem23 (by omega)) ?_
     refine wl_val rfl (ex_loadA rfl Try.agg25 Try.size25 (vs := [_, _, _, _, _, _, _, _, _]) rfl (hc1.evo hV26 hb1)) ?_; refine wl_m ?_; refine wl_call1 (vs := [_, _]) Try.goes20 rfl (ih hBC (by omega) (by omega) (RRx.pers _ _ _ _ _ _ hV26 hrk)) rfl ?_; rintro _ w27 ⟨bv2, k2, rfl, hk20, hk21, hBk, hw28⟩; have hE29 := hV26.step hw28 (fun y hy => .inl hy); have hB30 := hw28.blk hb2 (hA2c.nmem1); refine wl_nil (nrm_block (nrm_then ?_)); refine cw_region ?_; refine wl_m ?_; refine wl_val rfl (ex_add_i64 rfl rfl (by omega) (by omega)) ?_; refine wl_a ?_; refine wl_nil (nrm_same ?_); refine ⟨(j + 1, k2), ?_, ⟨rfl, trivial⟩, ⟨rfl, rfl, rfl, trivial⟩, hE29, ?_⟩
     · (try dsimp only); omega
     ·skip
      try dsimp only
      exact ⟨by omega, hk20, hk21, hBk, hB30⟩
    ·skip
     refine cw_exit (ex_then (ex_then (ex_here (nrm_then ?_)))); refine cw_seq ?_; refine cw_region ?_; refine wl_m ?_; refine wl_val rfl (ex_nilCheck rfl) ?_; refine wl_val rfl (ex_load1 rfl Try.agg3 (cell_nth hBC rfl)) ?_; refine wl_val rfl (ex_leq rfl rfl) ?_; refine wl_a ?_; refine wl_nil (nrm_then ?_); refine cw_ret (body_ret1 rfl rfl ?_); exact ⟨_, q, rfl, hq0, hq1, hBC, hV26⟩
   ·skip
    refine wl_n ?_; refine wl_n ?_; refine wl_n ?_; refine wl_n ?_; refine wl_pf ?_; refine wl_nil (nrm_then ?_); refine cw_false rfl ?_; refine cw_exit (ex_then (ex_then (ex_here (nrm_then ?_)))); refine cw_seq ?_; refine cw_region ?_; refine wl_m ?_; refine wl_val rfl (ex_nilCheck rfl) ?_; refine wl_val rfl (ex_load1 rfl Try.agg3 (cell_nth hBC rfl)) ?_; refine wl_val rfl (ex_leq rfl rfl) ?_; refine wl_a ?_; refine wl_nil (nrm_then ?_); refine cw_ret (body_ret1 rfl rfl ?_); exact ⟨_, q, rfl, hq0, hq1, hBC, hV26⟩
theorem counted_ok : ∀ {n : Nat} {w : World} {bc : Nat} {k : Int} {vs : List Value} {t : Rx} (hB : w.heap[bc]? = some (.cells #[iv k] 3 (0, 0))) (h0 : 0 ≤ k) (h1 : k ≤ 200000) (hx : RRx n [bc] w vs t), Calls Try.prog 20 #[.agg vs.toArray, .pointer (some ⟨bc, 0, none⟩)] w (Ret fun v w' => ∃ bv k', v = .bool bv ∧ 0 ≤ k' ∧ k' ≤ 200001 ∧ w'.heap[bc]? = some (.cells #[iv k'] 3 (0, 0)) ∧ Evo [bc] w w')
  | 0, w, bc, k, vs, t, hB, h0, h1, hx => hx.elim
  | n + 1, w, bc, k, vs, t, hB, h0, h1, hx => counted_step (n := n) (fun hB h0 h1 hx => counted_ok hB h0 h1 hx) hB h0 h1 hx
theorem wide_ok {n : Nat} {w : World} {vs : List Value} {t : Rx} (hx : RRx n [] w vs t) : Calls Try.prog 9 #[.agg vs.toArray] w (Ret fun v w' => ∃ b, v = .bool b ∧ Evo [] w w') := by
  have hx0 := hx; obtain ⟨m, xa, xc, ka, kc, hm, rfl, hrg, hk, bl1, bl2, bl3⟩ := hx.get; refine calls_of_cw (N := 7) Try.func9 rfl rfl rfl ?_; refine cw_seq ?_; refine cw_region ?_; refine wl_boxA rfl rfl fun b1 w1 hB2 hs3 hw4 => ?_; have hsz_b1 := hs3; have hG5 := Ge.new (Evo.refl [] w) hs3; have hE6 := (Evo.refl [] w).then hw4; refine wl_a ?_; refine wl_nil (nrm_then ?_); refine cw_seq ?_; refine cw_region ?_; refine wl_alloc rfl Try.zero3 fun bc w7 hB8 hs9 hw10 => ?_; have hsz_bc := hs9; have hA11 := Apart.new (Lt.blk hB2) hs9; have hG12 := Ge.new hE6 hs9; have hE13 := hE6.then hw10; have hB14 := hw10.blk0 hB2; refine wl_store1 rfl rfl (by first | rfl | assumption) Try.size3 hB8 rfl fun w15 hB16 hw17 => ?_; have hE18 := hE13.step hw17 hG12.mem1; have hB19 := hw17.blk hB14 hA11.nmem1
  try simp only [List.setIfInBounds_toArray, List.set_cons_zero, List.set_cons_succ, Nat.reduceAdd, Nat.zero_add, Nat.add_zero] at hB16
  refine wl_nil (nrm_then ?_); refine cw_seq ?_; refine cw_region ?_; refine wl_val rfl (ex_loadBlk rfl Try.agg25 Try.size25 hB19 rfl) ?_; refine wl_call1 (vs := [_, _]) Try.goes20 rfl (counted_ok hB16 (by decide) (by decide) (RRx.step hx0 hE18 hG12.mem1 (fun b hb => by cases hb))) rfl ?_; rintro _ w20 ⟨bv, k', rfl, -, -, -, hw21⟩; have hE22 := hE18.step hw21 (hG12.mem1); refine wl_val rfl (ex_notb rfl) ?_; refine wl_a ?_; refine wl_nil (nrm_then ?_); refine cw_ret (body_ret1 rfl rfl ?_); exact ⟨_, rfl, hE22⟩
end Go.Proofs.Ytgboffefbpligaa
namespace Go.Proofs.Ytgboffefbpligaa
open Go.Proofs
open Go.W Go.RowKit
attribute [local irreducible] Decidable.decide
set_option linter.unusedSimpArgs false
set_option linter.unusedVariables false
theorem Try.app93_93 : appB Try.prog 93 93 = some (5, 1, 1) := by kernel_rfl
theorem Try.elem58 : elemB Try.prog 58 = some 1 := by kernel_rfl
theorem Try.goes66 : Goes Try.prog 66 := ⟨_, Try.func66, by kernel_rfl, by kernel_rfl⟩
theorem Try.goes67 : Goes Try.prog 67 := ⟨_, Try.func67, by kernel_rfl, by kernel_rfl⟩
theorem Try.goes84 : Goes Try.prog 84 := ⟨_, Try.func84, by kernel_rfl, by kernel_rfl⟩
theorem Try.make93 : makeB Try.prog 93 = some (5, 1, 1, #[.int .u8 0]) := by kernel_rfl
abbrev u8s (l : List Nat) : List Value := l.map fun c => Value.int .u8 (c : Nat)
section
variable {P : Program} {σ : Env} {w : World} {dst : Option Nat} {T : TypeId} {pos : String} {after : Array Edge} {g : Option (Nat × Bool)}
theorem ofInt32 {m : Nat} (h : m < 2147483648) : (BitVec.ofInt 32 (m : Int)).toNat = m := by
  rw [BitVec.ofInt_natCast, BitVec.toNat_ofNat, Nat.mod_eq_of_lt (by omega)]
theorem ex_low6 {x y : Operand} {t t' : TypeId} {m : Nat} (hx : σ.ev x = some (.int .i32 (m : Nat))) (hy : σ.ev y = some (.int .i32 63)) (h1 : m < 2147483648) :
    Ex P σ ⟨dst, .binOp .and t x y t', T, pos, after, g⟩ w (.int .i32 ((m % 64 : Nat) : Int)) w := fun ρ h => by
  have e1 : (BitVec.ofInt IntKind.i32.bits (m : Int)).toNat = m := ofInt32 h1
  have e2 : (BitVec.ofInt IntKind.i32.bits (63 : Int)).toNat = 63 := by decide
  have e3 : m &&& 63 = m % 64 := Nat.and_two_pow_sub_one_eq_mod m 6
  have hr : IntKind.i32.wrap (((m % 64 : Nat)) : Int) = ((m % 64 : Nat) : Int) := wrap_of (by have := Nat.mod_lt m (show 0 < 64 by decide); simp [IntKind.min, IntKind.signed, IntKind.bits]; omega) (by have := Nat.mod_lt m (show 0 < 64 by decide); simp [IntKind.max, IntKind.signed, IntKind.bits]; omega)
  simp only [execOp, h x _ hx, h y _ hy]
  simp only [eqGuard, Go.binOp, Op.intBits, Sem.run_bind, Sem.run_pure, Result.andThen_ok, BitVec.toNat_and, e1, e2, e3, hr]
  simp
theorem ex_orB {x y : Operand} {t t' : TypeId} {m n : Nat} {x' z : Int} (r : Nat) (hx : σ.ev x = some (.int .u8 x')) (hy : σ.ev y = some (.int .u8 z)) (hm : x' = ((m : Nat) : Int)) (hz : z = ((n : Nat) : Int)) (h1 : m < 256) (h2 : n < 256) (hr : m ||| n = r) :
    Ex P σ ⟨dst, .binOp .or t x y t', T, pos, after, g⟩ w (.int .u8 ((r : Nat) : Int)) w := by
  subst hr
  exact ex_orN hx hy hm hz rfl h1 h2
end
theorem or_add {a b : Nat} (k : Nat) (hb : b < 2 ^ k) : 2 ^ k * a ||| b = 2 ^ k * a + b := (Nat.two_pow_add_eq_or_of_lt hb a).symm
theorem or128 {b : Nat} (h : b < 64) : 128 ||| b = 128 + b := or_add (a := 2) 6 h
theorem or192 {b : Nat} (h : b < 32) : 192 ||| b = 192 + b := or_add (a := 6) 5 h
theorem or224 {b : Nat} (h : b < 16) : 224 ||| b = 224 + b := or_add (a := 14) 4 h
theorem or240 {b : Nat} (h : b < 8) : 240 ||| b = 240 + b := or_add (a := 30) 3 h
theorem uisRune_ok {w : World} (n : Int) : Calls Try.prog 66 #[.int .i32 n] w (Ret fun v w' => v = .bool (decide (IsR n)) ∧ Evo [] w w') := by
  refine calls_of_cw (N := 17) Try.func66 rfl rfl rfl ?_; refine cw_seq ?_; refine cw_region ?_; refine wl_a ?_; refine wl_nil (nrm_then ?_); refine cw_seq ?_; refine cw_region ?_; refine wl_m ?_; refine wl_val rfl (ex_geq rfl rfl) ?_; refine wl_m ?_; refine wl_split (t := 5) rfl (fun hs5 => ?_) (fun hs5 => ?_)
  ·skip
   refine wl_g ?_; refine wl_m ?_; refine wl_g ?_; refine wl_val rfl (ex_leq rfl rfl) ?_; refine wl_pt ?_; refine wl_m ?_; refine wl_split (t := 9) rfl (fun hs9 => ?_) (fun hs9 => ?_)
   ·skip
    refine wl_g ?_; refine wl_m ?_; refine wl_g ?_; refine wl_val rfl (ex_lss rfl rfl) ?_; refine wl_g ?_; refine wl_m ?_; refine wl_split (t := 12) rfl (fun hs12 => ?_) (fun hs12 => ?_)
    ·skip
     refine wl_n ?_; refine wl_n ?_; refine wl_g ?_; refine wl_pt ?_; refine wl_pt ?_; refine wl_a ?_; refine wl_nil (nrm_then ?_); refine cw_ret (body_ret1 rfl rfl ?_)
     exact ⟨congrArg Value.bool (by first | exact decide_eq_decide.2 (by unfold IsR; omega) | exact (decide_eq_true (by unfold IsR; omega)).symm | exact (decide_eq_false (by unfold IsR; omega)).symm), (Evo.refl [] w)⟩
    ·skip
     refine wl_g ?_; refine wl_m ?_; refine wl_g ?_; refine wl_val rfl (ex_gtr rfl rfl) ?_; refine wl_g ?_; refine wl_pf ?_; refine wl_pt ?_; refine wl_a ?_; refine wl_nil (nrm_then ?_); refine cw_ret (body_ret1 rfl rfl ?_)
     exact ⟨congrArg Value.bool (by first | exact decide_eq_decide.2 (by unfold IsR; omega) | exact (decide_eq_true (by unfold IsR; omega)).symm | exact (decide_eq_false (by unfold IsR; omega)).symm), (Evo.refl [] w)⟩
   ·skip
    refine wl_n ?_; refine wl_n ?_; refine wl_n ?_; refine wl_u ?_; refine wl_u ?_; refine wl_n ?_; refine wl_pf ?_; refine wl_a ?_; refine wl_nil (nrm_then ?_); refine cw_ret (body_ret1 rfl rfl ?_)
    exact ⟨congrArg Value.bool (by first | exact decide_eq_decide.2 (by unfold IsR; omega) | exact (decide_eq_true (by unfold IsR; omega)).symm | exact (decide_eq_false (by unfold IsR; omega)).symm), (Evo.refl [] w)⟩
  ·skip
   refine wl_n ?_; refine wl_n ?_; refine wl_pf ?_; refine wl_m ?_; refine wl_n ?_; refine wl_n ?_; refine wl_n ?_; refine wl_u ?_; refine wl_u ?_; refine wl_n ?_; refine wl_pf ?_; refine wl_a ?_; refine wl_nil (nrm_then ?_); refine cw_ret (body_ret1 rfl rfl ?_)
   exact ⟨congrArg Value.bool (by first | exact decide_eq_decide.2 (by unfold IsR; omega) | exact (decide_eq_true (by unfold IsR; omega)).symm | exact (decide_eq_false (by unfold IsR; omega)).symm), (Evo.refl [] w)⟩
theorem utail_ok {w : World} (m : Nat) (hm : m < 2147483648) : Calls Try.prog 84 #[.int .i32 (m : Nat)] w (Ret fun v w' => v = .int .u8 ((128 + m % 64 : Nat) : Int) ∧ Evo [] w w') := by
  refine calls_of_cw (N := 7) Try.func84 rfl rfl rfl ?_; refine cw_seq ?_; refine cw_region ?_; refine wl_a ?_; refine wl_nil (nrm_then ?_); refine cw_seq ?_; refine cw_region ?_; refine wl_m ?_; refine wl_val rfl (ex_low6 rfl rfl hm) ?_
  refine wl_val rfl (ex_convB (m % 64) rfl Try.underlying21 Try.underlying5 (by rfl) (by simp [IntKind.max, IntKind.bits, IntKind.signed] <;> omega)) ?_
  refine wl_val rfl (ex_orB (128 + m % 64) (m := 128) rfl rfl rfl rfl (by decide) (by omega) (or128 (by omega))) ?_; refine wl_a ?_; refine wl_nil (nrm_then ?_); refine cw_ret (body_ret1 rfl rfl ?_); exact ⟨rfl, (Evo.refl [] w)⟩
theorem uform_ok {w : World} {a : Option Addr} {n c : Nat} {ds : List Nat} {ob : Option Nat} {r : Int} (m : Nat) (hr : r = (m : Nat)) (hm : m < 1114112) (hO : OwnS w 5 1 a n c (u8s ds) ob) (hl : n ≤ 1000000000) :
    Calls Try.prog 67 #[.slice a n c, .int .i32 r] w (Ret fun v w' => ∃ a' c' ob', v = .slice a' (n + (formN m).length) c' ∧ OwnS w' 5 1 a' (n + (formN m).length) c' (u8s (ds ++ formN m)) ob' ∧ Evo ob.toList w w' ∧ (ob' = ob ∨ ∃ g, ob' = some g ∧ w.heap.size ≤ g)) := by
  subst hr; refine calls_of_cw (N := 55) Try.func67 rfl rfl rfl ?_; refine cw_seq ?_; refine cw_region ?_; refine wl_a ?_; refine wl_nil (nrm_then ?_); refine cw_seq ?_; refine cw_block ?_; refine cw_seq ?_; refine cw_region ?_; refine wl_m ?_; refine wl_val rfl (ex_lss rfl rfl) ?_; refine wl_a ?_; refine wl_nil (nrm_then ?_); refine cw_if rfl (fun hc5 => ?_) (fun hc5 => ?_)
  ·skip
   refine cw_seq ?_; refine cw_region ?_; refine wl_m ?_; refine wl_m ?_
   refine wl_val rfl (ex_convB (m) rfl Try.underlying21 Try.underlying5 (by rfl) (by simp [IntKind.max, IntKind.bits, IntKind.signed] <;> omega)) ?_
   refine wl_bslice (vs := [_]) rfl Try.slice93 rfl rfl rfl rfl fun b1 w2 hO3 hs4 hw5 => ?_; have hA6 := Apart.new (Lt.own hO) hs4; have hG7 := Ge.new (Evo.refl ob.toList w) hs4; have hE8 := (Evo.refl ob.toList w).then hw5; have hO9 := hO.evo0 hw5; have hszg := (hE8).size; refine wl_append rfl rfl rfl rfl Try.app93_93 hO9 (Src.ofOwn hO3 ⟨rfl, trivial⟩) (by omega) fun a2 c2 w12 ob2 hO2 hw15 hob16 => ?_; have hA17 := hA6.symm.app (Lt.own hO3) hob16; have hE18 := hE8.step hw15 (fun y hy => .inl hy); have hO19 := hO3.evo hw15 hA6.symm.own; have hob2 : ob2 = ob ∨ ∃ g, ob2 = some g ∧ w.heap.size ≤ g := hob16.imp id (fun ⟨g, h1, h2⟩ => ⟨g, h1, Nat.le_trans hszg h2⟩); refine wl_a ?_; refine wl_nil (nrm_then ?_); refine cw_ret (ret_block (ret_then (body_ret1 rfl rfl ?_))); refine ⟨a2, c2, ob2, ?_, ?_, hE18, hob2⟩
   · rw [show (formN m).length = 1 from by unfold formN; rw [if_pos (by omega)]; try rfl]
   · rw [show (formN m).length = 1 from by unfold formN; rw [if_pos (by omega)]; try rfl, show u8s (ds ++ formN m) = u8s ds ++ u8s (formN m) from List.map_append]; have h9 := hO2; rw [show u8s (formN m) = _ from by unfold formN; rw [if_pos (by omega)]]; exact h9
  ·skip
   refine cw_seq ?_; refine cw_region ?_; refine wl_m ?_; refine wl_val rfl (ex_lss rfl rfl) ?_; refine wl_a ?_; refine wl_nil (nrm_then ?_); refine cw_if rfl (fun hc13 => ?_) (fun hc13 => ?_)
   ·skip
    refine cw_seq ?_; refine cw_region ?_; refine wl_m ?_; refine wl_m ?_; refine wl_val rfl (ex_shrN (m := m) (n := 6) rfl rfl rfl rfl (by decide)) ?_
    refine wl_val rfl (ex_convB (m / 2 ^ 6) rfl Try.underlying21 Try.underlying5 (by rfl) (by simp [IntKind.max, IntKind.bits, IntKind.signed] <;> omega)) ?_
    refine wl_val rfl (ex_orB (192 + m / 2 ^ 6) (m := 192) (n := m / 2 ^ 6) rfl rfl rfl rfl (by decide) (by omega) (or192 (by omega))) ?_; refine wl_m ?_; refine wl_call1 (vs := [_]) Try.goes84 rfl (utail_ok (m) (by omega)) rfl ?_; rintro _ w20 ⟨rfl, hw21⟩; have hE22 := (Evo.refl ob.toList w).then hw21; have hO23 := hO.evo0 hw21; refine wl_bslice (vs := [_, _]) rfl Try.slice93 rfl rfl rfl rfl fun b24 w25 hO26 hs27 hw28 => ?_; have hA29 := Apart.new (Lt.own hO23) hs27; have hG30 := Ge.new hE22 hs27; have hE31 := hE22.then hw28; have hO32 := hO23.evo0 hw28; have hszg := (hE31).size; refine wl_append rfl rfl rfl rfl Try.app93_93 hO32 (Src.ofOwn hO26 ⟨rfl, rfl, trivial⟩) (by omega) fun a2 c2 w35 ob2 hO2 hw38 hob39 => ?_; have hA40 := hA29.symm.app (Lt.own hO26) hob39; have hE41 := hE31.step hw38 (fun y hy => .inl hy); have hO42 := hO26.evo hw38 hA29.symm.own; have hob2 : ob2 = ob ∨ ∃ g, ob2 = some g ∧ w.heap.size ≤ g := hob39.imp id (fun ⟨g, h1, h2⟩ => ⟨g, h1, Nat.le_trans hszg h2⟩); refine wl_a ?_; refine wl_nil (nrm_then ?_); refine cw_ret (ret_block (ret_then (body_ret1 rfl rfl ?_))); refine ⟨a2, c2, ob2, ?_, ?_, hE41, hob2⟩
    · rw [show (formN m).length = 2 from by unfold formN; rw [if_neg (by omega), if_pos (by omega)]; try rfl]
    · rw [show (formN m).length = 2 from by unfold formN; rw [if_neg (by omega), if_pos (by omega)]; try rfl, show u8s (ds ++ formN m) = u8s ds ++ u8s (formN m) from List.map_append]; have h9 := hO2; rw [show u8s (formN m) = _ from by unfold formN; rw [if_neg (by omega), if_pos (by omega)]]; exact h9
   ·skip
    refine cw_seq ?_; refine cw_region ?_; refine wl_m ?_; refine wl_val rfl (ex_lss rfl rfl) ?_; refine wl_a ?_; refine wl_nil (nrm_then ?_); refine cw_if rfl (fun hc25 => ?_) (fun hc25 => ?_)
    ·skip
     refine cw_seq ?_; refine cw_region ?_; refine wl_m ?_; refine wl_m ?_; refine wl_val rfl (ex_shrN (m := m) (n := 12) rfl rfl rfl rfl (by decide)) ?_
     refine wl_val rfl (ex_convB (m / 2 ^ 12) rfl Try.underlying21 Try.underlying5 (by rfl) (by simp [IntKind.max, IntKind.bits, IntKind.signed] <;> omega)) ?_
     refine wl_val rfl (ex_orB (224 + m / 2 ^ 12) (m := 224) (n := m / 2 ^ 12) rfl rfl rfl rfl (by decide) (by omega) (or224 (by omega))) ?_; refine wl_m ?_; refine wl_val rfl (ex_shrN (m := m) (n := 6) rfl rfl rfl rfl (by decide)) ?_; refine wl_call1 (vs := [_]) Try.goes84 rfl (utail_ok (m / 2 ^ 6) (by omega)) rfl ?_; rintro _ w43 ⟨rfl, hw44⟩; have hE45 := (Evo.refl ob.toList w).then hw44; have hO46 := hO.evo0 hw44; refine wl_m ?_; refine wl_call1 (vs := [_]) Try.goes84 rfl (utail_ok (m) (by omega)) rfl ?_; rintro _ w47 ⟨rfl, hw48⟩; have hE49 := hE45.then hw48; have hO50 := hO46.evo0 hw48; refine wl_bslice (vs := [_, _, _]) rfl Try.slice93 rfl rfl rfl rfl fun b51 w52 hO53 hs54 hw55 => ?_; have hA56 := Apart.new (Lt.own hO50) hs54; have hG57 := Ge.new hE49 hs54; have hE58 := hE49.then hw55; have hO59 := hO50.evo0 hw55; have hszg := (hE58).size; refine wl_append rfl rfl rfl rfl Try.app93_93 hO59 (Src.ofOwn hO53 ⟨rfl, rfl, rfl, trivial⟩) (by omega) fun a2 c2 w62 ob2 hO2 hw65 hob66 => ?_; have hA67 := hA56.symm.app (Lt.own hO53) hob66; have hE68 := hE58.step hw65 (fun y hy => .inl hy); have hO69 := hO53.evo hw65 hA56.symm.own; have hob2 : ob2 = ob ∨ ∃ g, ob2 = some g ∧ w.heap.size ≤ g := hob66.imp id (fun ⟨g, h1, h2⟩ => ⟨g, h1, Nat.le_trans hszg h2⟩); refine wl_a ?_; refine wl_nil (nrm_then ?_); refine cw_ret (ret_block (ret_then (body_ret1 rfl rfl ?_))); refine ⟨a2, c2, ob2, ?_, ?_, hE68, hob2⟩
     · rw [show (formN m).length = 3 from by unfold formN; rw [if_neg (by omega), if_neg (by omega), if_pos (by omega)]; try rfl]
     · rw [show (formN m).length = 3 from by unfold formN; rw [if_neg (by omega), if_neg (by omega), if_pos (by omega)]; try rfl, show u8s (ds ++ formN m) = u8s ds ++ u8s (formN m) from List.map_append]; have h9 := hO2; rw [show u8s (formN m) = _ from by unfold formN; rw [if_neg (by omega), if_neg (by omega), if_pos (by omega)]]; exact h9
    ·skip
     refine cw_skip (nrm_block (nrm_then ?_)); refine cw_seq ?_; refine cw_region ?_; refine wl_m ?_; refine wl_m ?_; refine wl_val rfl (ex_shrN (m := m) (n := 18) rfl rfl rfl rfl (by decide)) ?_
     refine wl_val rfl (ex_convB (m / 2 ^ 18) rfl Try.underlying21 Try.underlying5 (by rfl) (by simp [IntKind.max, IntKind.bits, IntKind.signed] <;> omega)) ?_
     refine wl_val rfl (ex_orB (240 + m / 2 ^ 18) (m := 240) (n := m / 2 ^ 18) rfl rfl rfl rfl (by decide) (by omega) (or240 (by omega))) ?_; refine wl_m ?_; refine wl_val rfl (ex_shrN (m := m) (n := 12) rfl rfl rfl rfl (by decide)) ?_; refine wl_call1 (vs := [_]) Try.goes84 rfl (utail_ok (m / 2 ^ 12) (by omega)) rfl ?_; rintro _ w70 ⟨rfl, hw71⟩; have hE72 := (Evo.refl ob.toList w).then hw71; have hO73 := hO.evo0 hw71; refine wl_m ?_; refine wl_val rfl (ex_shrN (m := m) (n := 6) rfl rfl rfl rfl (by decide)) ?_; refine wl_call1 (vs := [_]) Try.goes84 rfl (utail_ok (m / 2 ^ 6) (by omega)) rfl ?_; rintro _ w74 ⟨rfl, hw75⟩; have hE76 := hE72.then hw75; have hO77 := hO73.evo0 hw75; refine wl_m ?_; refine wl_call1 (vs := [_]) Try.goes84 rfl (utail_ok (m) (by omega)) rfl ?_; rintro _ w78 ⟨rfl, hw79⟩; have hE80 := hE76.then hw79; have hO81 := hO77.evo0 hw79; refine wl_bslice (vs := [_, _, _, _]) rfl Try.slice93 rfl rfl rfl rfl fun b82 w83 hO84 hs85 hw86 => ?_; have hA87 := Apart.new (Lt.own hO81) hs85; have hG88 := Ge.new hE80 hs85; have hE89 := hE80.then hw86; have hO90 := hO81.evo0 hw86; have hszg := (hE89).size; refine wl_append rfl rfl rfl rfl Try.app93_93 hO90 (Src.ofOwn hO84 ⟨rfl, rfl, rfl, rfl, trivial⟩) (by omega) fun a2 c2 w93 ob2 hO2 hw96 hob97 => ?_; have hA98 := hA87.symm.app (Lt.own hO84) hob97; have hE99 := hE89.step hw96 (fun y hy => .inl hy); have hO100 := hO84.evo hw96 hA87.symm.own; have hob2 : ob2 = ob ∨ ∃ g, ob2 = some g ∧ w.heap.size ≤ g := hob97.imp id (fun ⟨g, h1, h2⟩ => ⟨g, h1, Nat.le_trans hszg h2⟩); refine wl_a ?_; refine wl_nil (nrm_then ?_); refine cw_ret (body_ret1 rfl rfl ?_); refine ⟨a2, c2, ob2, ?_, ?_, hE99, hob2⟩
     · rw [show (formN m).length = 4 from by unfold formN; rw [if_neg (by omega), if_neg (by omega), if_neg (by omega)]; try rfl]
     · rw [show (formN m).length = 4 from by unfold formN; rw [if_neg (by omega), if_neg (by omega), if_neg (by omega)]; try rfl, show u8s (ds ++ formN m) = u8s ds ++ u8s (formN m) from List.map_append]; have h9 := hO2; rw [show u8s (formN m) = _ from by unfold formN; rw [if_neg (by omega), if_neg (by omega), if_neg (by omega)]]; exact h9
structure TxG where
  k : Nat
  na : Option Addr
  nc : Nat
  no : Option Nat
def frm (rs : List Int) : List Nat := rs.flatMap formB
theorem frm_succ {rs : List Int} {k : Nat} (h : k < rs.length) : frm (rs.take (k + 1)) = frm (rs.take k) ++ formB rs[k] := by
  unfold frm; rw [List.take_add_one, List.getElem?_eq_getElem h, List.flatMap_append]; simp
theorem frm_len (rs : List Int) : (frm rs).length ≤ 4 * rs.length := by
  induction rs with
  | nil => exact Nat.zero_le _
  | cons r rs ih => have := formB_len r; unfold frm at ih ⊢; rw [List.flatMap_cons, List.length_append, List.length_cons]; omega
theorem frm_lt (rs : List Int) : ∀ b, b ∈ frm rs → b < 256 := fun b hb => by
  obtain ⟨r, _, h⟩ := List.mem_flatMap.1 hb
  exact formB_lt r b h
structure TxI (w wr : World) (a : Option Addr) (c : Nat) (ob : Option Nat) (rs : List Int) (x : TxG) : Prop where
  src : OwnS wr 21 1 a rs.length c (i32s rs) ob
  k : x.k ≤ rs.length
  all : ∀ r, r ∈ rs.take x.k → IsR r
  own : OwnS wr 5 1 x.na (frm (rs.take x.k)).length x.nc (u8s (frm (rs.take x.k))) x.no
  ge : Ge w x.no
theorem utext_ok {w : World} {a : Option Addr} {c : Nat} {rs : List Int} {ob : Option Nat} (hO : OwnS w 21 1 a rs.length c (i32s rs) ob) (hl : rs.length ≤ 100000000) :
    Calls Try.prog 44 #[.slice a rs.length c] w (Ret fun v w' => ((v = .tuple #[.string (bstr (frm rs)), iv 0] ∧ ∀ r, r ∈ rs → IsR r) ∨ (v = .tuple #[.string (ByteArray.mk #[]), iv 12] ∧ ¬ ∀ r, r ∈ rs → IsR r)) ∧ Evo [] w w') := by
  refine calls_of_cw (N := 25) Try.func44 rfl rfl rfl ?_; refine cw_seq ?_; refine cw_region ?_; refine wl_a ?_; refine wl_a ?_; refine wl_nil (nrm_then ?_); refine cw_seq ?_; refine cw_region ?_; refine wl_m ?_; refine wl_val rfl (ex_len_slice rfl Try.underlying58 rfl) ?_; refine wl_make (len := 0) (c := rs.length) rfl rfl rfl Try.make93 (by omega) (by omega) (by omega) (by decide) (by omega) (by omega) fun b4 w2 hN hs4 hw5 => ?_; have hA6 := Apart.new (Lt.own hO) hs4; have hG7 := Ge.new (Evo.refl [] w) hs4; have hE8 := (Evo.refl [] w).then hw5; have hO9 := hO.evo0 hw5; refine wl_a ?_; refine wl_nil (nrm_then ?_); refine cw_seq ?_; refine cw_seq ?_; refine cw_region ?_; refine wl_m ?_; refine wl_val rfl (ex_len_slice rfl Try.underlying58 rfl) ?_; refine wl_m ?_; refine wl_nil (nrm_then ?_); refine cw_block ?_; refine cw_loop (α := TxG) (⟨0, some ⟨b4, 0, none⟩, rs.length, some b4⟩) (fun x => [(12, .int .i64 (x.k : Nat)), (4, .slice x.na (frm (rs.take x.k)).length x.nc)]) [(10, _), (11, _)] (fun x wr => Evo [] w wr ∧ (TxI w wr a c ob rs x)) (fun x => rs.length - x.k) ⟨rfl, rfl, trivial⟩ ⟨rfl, rfl, trivial⟩ ⟨hE8, ⟨hO9, Nat.zero_le _, (fun r h => by simp at h), hN, hG7⟩⟩ ?_; rintro ⟨k, na, nc, no⟩ wr10 ⟨hV11, ⟨hsr, hk, hall, hn, hge⟩⟩; show CW _ _ _ _ [(12, .int .i64 (k : Nat)), (4, .slice na (frm (rs.take k)).length nc), (10, _), (11, _)] _
  try dsimp only at hsr
  try dsimp only at hk
  try dsimp only at hall
  try dsimp only at hn
  try dsimp only at hge
  refine cw_seq ?_; refine cw_region ?_; refine wl_val rfl (ex_lss rfl rfl) ?_; refine wl_nil (nrm_then ?_); refine cw_seq ?_; refine cw_if rfl (fun hc13 => ?_) (fun hc13 => ?_)
  ·skip
   have hj' : k < rs.length := by omega
   obtain ⟨gR, hgR, haR, hcR⟩ := hsr.cells (by omega); refine cw_skip (nrm_then ?_); refine cw_seq ?_; refine cw_block ?_; refine cw_seq ?_; refine cw_region ?_
   refine wl_val rfl (ex_indexAddr (n := k) (by rw [haR]; rfl) rfl Try.elem58 (by omega)) ?_
   refine wl_val rfl (ex_load1 rfl Try.agg21 (by rw [Nat.mul_one]; exact hcR k (.int .i32 rs[k]) (by rw [List.getElem?_map, List.getElem?_eq_getElem hj']; rfl))) ?_
   refine wl_a ?_; refine wl_nil (nrm_then ?_); refine cw_seq ?_; refine cw_seq ?_; refine cw_region ?_; refine wl_m ?_; refine wl_call1 (vs := [_]) Try.goes66 rfl (uisRune_ok _) rfl ?_; rintro _ w12 ⟨rfl, hw13⟩; have hE14 := hV11.then hw13; have hO15 := hn.evo0 hw13; have hO16 := hsr.evo0 hw13; refine wl_val rfl (ex_not rfl) ?_; refine wl_nil (nrm_then ?_); refine cw_if rfl (fun hc18 => ?_) (fun hc18 => ?_)
   ·skip
    refine cw_seq ?_; refine cw_region ?_; refine wl_a ?_; refine wl_a ?_; refine wl_nil (nrm_then ?_); refine cw_ret (ret_then (ret_block (ret_then (ret_then (ret_block (ret_then (body_ret2 rfl rfl rfl ?_))))))); exact ⟨.inr ⟨rfl, fun h => (by simpa using hc18 : ¬ IsR rs[k]) (h _ (List.getElem_mem _))⟩, hE14⟩
   ·skip
    have hir : IsR rs[k] := by simpa using hc18
    have hir2 := isr_iff.1 hir; obtain ⟨m, hm⟩ := Int.eq_ofNat_of_zero_le hir2.1
    have hm3 : m < 1114112 := by omega
    refine cw_skip (nrm_then ?_); refine cw_region ?_; refine wl_m ?_; refine wl_m ?_
    refine wl_call1 (vs := [_, _]) Try.goes67 rfl (uform_ok m hm hm3 hO15 (by have := frm_len (rs.take k); rw [List.length_take] at this; omega)) rfl ?_
    rintro _ w17 ⟨a1, c1, ob1, rfl, hN1, hw18, hob1⟩; have hA19 := ap_ob (Apart.fresh (Lt.own hO) hge) (Lt.own hO16) hob1; have hG20 := ge_ob hge hE14.size hob1; have hE21 := hE14.step hw18 hge.mem; have hO22 := hO16.evo hw18 (Apart.fresh (Lt.own hO) hge).own; have e9 := frm_succ hj'
    have e8 : formB rs[k] = formN m := by rw [hm, formB, if_pos (hm ▸ hir)]; rfl
    rw [e8] at e9; rw [show (frm (rs.take k)).length + (formN m).length = (frm (rs.take (k + 1))).length from by rw [e9, List.length_append]]; refine wl_a ?_; refine wl_nil (nrm_block (nrm_then ?_)); refine cw_region ?_; refine wl_val rfl (ex_add_i64 rfl rfl (by omega) (by omega)) ?_; refine wl_m ?_; refine wl_nil (nrm_same ?_); refine ⟨⟨k + 1, a1, c1, ob1⟩, ?_, ⟨rfl, rfl, trivial⟩, ⟨rfl, rfl, trivial⟩, hE21, ?_⟩
    · (try dsimp only); omega
    ·skip
     try dsimp only
     refine ⟨hO22, by show k + 1 ≤ _; omega, ?_, ?_, hG20⟩
     · show ∀ r, r ∈ rs.take (k + 1) → IsR r; intro r hr; rw [List.take_add_one, List.getElem?_eq_getElem hj', List.mem_append] at hr; rcases hr with hr | hr; exact hall r hr; (simp at hr; subst hr; exact hir)
     · have h9 := hN1; rw [← e9] at h9; show OwnS _ 5 1 _ (frm (rs.take (k + 1))).length _ (u8s (frm (rs.take (k + 1)))) _; rw [e9, List.length_append, ← e9]; exact h9
  ·skip
   have hall2 : rs.take k = rs := List.take_of_length_le (by omega); refine cw_exit (ex_then (ex_then (ex_here (nrm_then ?_)))); refine cw_seq ?_; refine cw_region ?_; refine wl_m ?_; refine wl_val rfl (ex_bstr (X := []) rfl (own_bstr hn rfl (frm_lt _)) Try.underlying93 Try.underlying5 Try.underlying9) ?_; refine wl_a ?_; refine wl_a ?_; refine wl_nil (nrm_then ?_); refine cw_ret (body_ret2 rfl rfl rfl ?_); exact ⟨.inl ⟨by rw [hall2], hall2 ▸ hall⟩, hV11⟩
end Go.Proofs.Ytgboffefbpligaa
namespace Go.W
open Go.RowKit
set_option linter.unusedVariables false
set_option linter.unusedSimpArgs false
set_option linter.unusedSectionVars false
section
variable {P : Program} {N : NN} {R : Post} {σ : Env} {w w' : World} {ops : Array Oper} {rest : List Oper} {n d : Nat} {op : Op} {T : TypeId} {pos : String} {after : Array Edge}
end
end Go.W
namespace Go.Proofs.Ytgboffefbpligaa
open Go.Proofs
open Go.W Go.RowKit
attribute [local irreducible] Decidable.decide
set_option linter.unusedSimpArgs false
set_option linter.unusedVariables false
theorem next_ext {s : ByteArray} {a : Nat} (h : 0 < (nextR s a).2) : s.extract a (a + (nextR s a).2) = bstr (formB (nextR s a).1) ∧ (formB (nextR s a).1).length = (nextR s a).2 ∧ IsR (nextR s a).1 := by
  by_cases ha : a < s.size
  · rcases decode_cases s a ha with ⟨w, h1, h2, h3, hh, hd, h4, h5, -⟩ | ⟨h1, hd⟩
    · have hn := (next_hit h1 h2 h3 hh).1
      rw [hn]
      exact ⟨(hit_eq h3).1 hh, hit_len hh, hit_isR h1 hh⟩
    · unfold nextR at h
      rw [if_neg (fun e => e.2 (by rw [hd]; exact ⟨rfl, rfl⟩))] at h
      cases h
  · rw [next_out (by omega)] at h; cases h
theorem ext_app {s : ByteArray} {a b c : Nat} (h1 : a ≤ b) (h2 : b ≤ c) : s.extract a c = s.extract a b ++ s.extract b c := by
  rw [ByteArray.extract_append_extract]
  congr 1 <;> omega
def CmI (a b : ByteArray) (be : Nat) (w1 : World) (pre : List Nat) (W : World) : Prop :=
  ∃ e : Nat, W.heap[be]? = some (.cells #[.int .i64 (e : Nat)] 3 (0, 0)) ∧ Evo [be] w1 W ∧ ((∃ k, pre = List.range k) → e = offs a pre.length ∧ e ≤ b.size ∧ a.extract 0 e = b.extract 0 e)
theorem CmI.own (a b : ByteArray) (be : Nat) (w1 : World) : OwnFrom w1.heap.size (CmI a b be w1) := fun _ _ _ _ ⟨e, h1, h2, h3⟩ hg hr =>
  ⟨e, blk_turn h1 hg (fun r e => (hr r e).2), evo_turn h2 hg (fun r e => (hr r e).1), h3⟩
def CmX (a b : ByteArray) (be : Nat) (w1 : World) (c : Code) (pre : List Nat) (W : World) : Prop := c = .exit 0 ∧ ∃ p x, pre = p ++ [x] ∧ (nextR b (offs a x)).1 ≠ (nextR a (offs a x)).1 ∧ CmI a b be w1 p W
theorem CmX.own (a b : ByteArray) (be : Nat) (w1 : World) (c : Code) : OwnFrom w1.heap.size (CmX a b be w1 c) := fun _ _ _ _ ⟨h1, p, x, h2, h4, h3⟩ hg hr => ⟨h1, p, x, h2, h4, CmI.own a b be w1 _ _ _ _ h3 hg hr⟩
end Go.Proofs.Ytgboffefbpligaa
namespace Go.Proofs.Ytgboffefbpligaa
open Go.Proofs
set_option linter.unusedVariables false
open Go.Shelf
def Try.lays190_ren : Go.Shelf.Ren := ⟨fun | 190 => 93 | 125 => 102 | 258 => 101 | 128 => 113 | 129 => 114 | 302 => 104 | 303 => 105 | 304 => 106 | 305 => 107 | 306 => 108 | 307 => 109 | 308 => 110 | 309 => 111 | 310 => 112 | 333 => 115 | 329 => 116 | 330 => 117 | 334 => 118 | 335 => 119 | 336 => 120 | 344 => 121 | n => n, fun | 31 => 27 | 9 => 9 | 3 => 3 | 46 => 129 | 0 => 0 | 51 => 143 | 53 => 146 | 4 => 4 | 183 => 154 | 182 => 153 | 131 => 158 | 5 => 5 | 218 => 162 | 222 => 53 | 228 => 167 | 229 => 168 | n => n, fun | n => n⟩
theorem Try.lays190 : Go.Proofs.Lays.n190 Try.prog Try.lays190_ren := {
  mixed := by kernel_rfl
  f125 := Try.func102.trans (congrArg some (by kernel_rfl))
  f128 := Try.func113.trans (congrArg some (by kernel_rfl))
  f129 := Try.func114.trans (congrArg some (by kernel_rfl))
  f190 := Try.func93.trans (congrArg some (by kernel_rfl))
  f258 := Try.func101.trans (congrArg some (by kernel_rfl))
  f302 := Try.func104.trans (congrArg some (by kernel_rfl))
  f303 := Try.func105.trans (congrArg some (by kernel_rfl))
  f304 := Try.func106.trans (congrArg some (by kernel_rfl))
  f305 := Try.func107.trans (congrArg some (by kernel_rfl))
  f306 := Try.func108.trans (congrArg some (by kernel_rfl))
  f307 := Try.func109.trans (congrArg some (by kernel_rfl))
  f308 := Try.func110.trans (congrArg some (by kernel_rfl))
  f309 := Try.func111.trans (congrArg some (by kernel_rfl))
  f310 := Try.func112.trans (congrArg some (by kernel_rfl))
  f329 := Try.func116.trans (congrArg some (by kernel_rfl))
  f330 := Try.func117.trans (congrArg some (by kernel_rfl))
  f333 := Try.func115.trans (congrArg some (by kernel_rfl))
  f334 := Try.func118.trans (congrArg some (by kernel_rfl))
  f335 := Try.func119.trans (congrArg some (by kernel_rfl))
  f336 := Try.func120.trans (congrArg some (by kernel_rfl))
  f344 := Try.func121.trans (congrArg some (by kernel_rfl))
  t0 := Try.underlying0
  a0 := Try.isAgg0
  z0 := Try.sizeOf0
  v0 := Try.zeroValue0
  t3 := Try.underlying3
  a3 := Try.isAgg3
  z3 := Try.sizeOf3
  v3 := Try.zeroValue3
  t4 := Try.underlying4
  a4 := Try.isAgg4
  z4 := Try.sizeOf4
  v4 := Try.zeroValue4
  t5 := Try.underlying5
  a5 := Try.isAgg5
  z5 := Try.sizeOf5
  v5 := Try.zeroValue5
  t9 := Try.underlying9
  a9 := Try.isAgg9
  z9 := Try.sizeOf9
  v9 := Try.zeroValue9
  t31 := Try.underlying27
  a31 := Try.isAgg27
  z31 := Try.sizeOf27
  v31 := Try.zeroValue27
  t46 := Try.underlying129
  a46 := Try.isAgg129
  z46 := Try.sizeOf129
  v46 := Try.zeroValue129
  t51 := Try.underlying143
  a51 := Try.isAgg143
  z51 := Try.sizeOf143
  v51 := Try.zeroValue143
  t53 := Try.underlying146
  a53 := Try.isAgg146
  z53 := Try.sizeOf146
  v53 := Try.zeroValue146
  t131 := Try.underlying158
  a131 := Try.isAgg158
  z131 := Try.sizeOf158
  v131 := Try.zeroValue158
  t182 := Try.underlying153
  a182 := Try.isAgg153
  z182 := Try.sizeOf153
  v182 := Try.zeroValue153
  t183 := Try.underlying154
  a183 := Try.isAgg154
  z183 := Try.sizeOf154
  v183 := Try.zeroValue154
  t218 := Try.underlying162
  a218 := Try.isAgg162
  z218 := Try.sizeOf162
  v218 := Try.zeroValue162
  t222 := Try.underlying53
  a222 := Try.isAgg53
  z222 := Try.sizeOf53
  v222 := Try.zeroValue53
  t228 := Try.underlying167
  a228 := Try.isAgg167
  z228 := Try.sizeOf167
  v228 := Try.zeroValue167
  t229 := Try.underlying168
  a229 := Try.isAgg168
  z229 := Try.sizeOf168
  v229 := Try.zeroValue168 }
open Go.Sort Go.RowKit in
theorem Try.slices_Sort_string (blk off cap : Nat) (ss : List (List UInt8)) (w : World) (hH : Holds encStr w blk off ss.toArray) (hblk : blk < w.heap.size) (hsz : ss.length < 4611686018427387904) :
    Calls Try.prog 93 #[.slice (some ⟨blk, off, none⟩) ss.length cap] w fun e w' =>
      e = .returned (.tuple #[]) ∧ ∃ n os, w' = grow (putRow encStr (Sort.ahead w n) blk off (ss.mergeSort fun x y => decide (x ≤ y)).toArray) os := Any.slices_Sort_string Try.lays190 blk off cap ss w hH hblk hsz
def Try.lays105_ren : Go.Shelf.Ren := ⟨fun | 105 => 71 | 212 => 89 | 99 => 90 | 165 => 91 | 166 => 45 | 170 => 92 | 169 => 46 | 263 => 97 | 264 => 98 | 206 => 99 | 240 => 68 | 241 => 100 | 276 => 85 | 277 => 103 | n => n, fun | 9 => 9 | 3 => 3 | 4 => 4 | 20 => 20 | 0 => 0 | 46 => 129 | 109 => 135 | 5 => 5 | 72 => 95 | 76 => 98 | 51 => 143 | 146 => 144 | 53 => 146 | 148 => 147 | 70 => 92 | 37 => 93 | 75 => 97 | 127 => 116 | 164 => 131 | 80 => 100 | n => n, fun | n => n⟩
theorem Try.lays105 : Go.Proofs.Lays.n105 Try.prog Try.lays105_ren := {
  mixed := by kernel_rfl
  f99 := Try.func90.trans (congrArg some (by kernel_rfl))
  f105 := Try.func71.trans (congrArg some (by kernel_rfl))
  f165 := Try.func91.trans (congrArg some (by kernel_rfl))
  f166 := Try.func45.trans (congrArg some (by kernel_rfl))
  f169 := Try.func46.trans (congrArg some (by kernel_rfl))
  f170 := Try.func92.trans (congrArg some (by kernel_rfl))
  f206 := Try.func99.trans (congrArg some (by kernel_rfl))
  f212 := Try.func89.trans (congrArg some (by kernel_rfl))
  f240 := Try.func68.trans (congrArg some (by kernel_rfl))
  f241 := Try.func100.trans (congrArg some (by kernel_rfl))
  f263 := Try.func97.trans (congrArg some (by kernel_rfl))
  f264 := Try.func98.trans (congrArg some (by kernel_rfl))
  f276 := Try.func85.trans (congrArg some (by kernel_rfl))
  f277 := Try.func103.trans (congrArg some (by kernel_rfl))
  t0 := Try.underlying0
  a0 := Try.isAgg0
  z0 := Try.sizeOf0
  v0 := Try.zeroValue0
  t3 := Try.underlying3
  a3 := Try.isAgg3
  z3 := Try.sizeOf3
  v3 := Try.zeroValue3
  t4 := Try.underlying4
  a4 := Try.isAgg4
  z4 := Try.sizeOf4
  v4 := Try.zeroValue4
  t5 := Try.underlying5
  a5 := Try.isAgg5
  z5 := Try.sizeOf5
  v5 := Try.zeroValue5
  t9 := Try.underlying9
  a9 := Try.isAgg9
  z9 := Try.sizeOf9
  v9 := Try.zeroValue9
  t20 := Try.underlying20
  a20 := Try.isAgg20
  z20 := Try.sizeOf20
  v20 := Try.zeroValue20
  t37 := Try.underlying93
  a37 := Try.isAgg93
  z37 := Try.sizeOf93
  v37 := Try.zeroValue93
  t46 := Try.underlying129
  a46 := Try.isAgg129
  z46 := Try.sizeOf129
  v46 := Try.zeroValue129
  t51 := Try.underlying143
  a51 := Try.isAgg143
  z51 := Try.sizeOf143
  v51 := Try.zeroValue143
  t53 := Try.underlying146
  a53 := Try.isAgg146
  z53 := Try.sizeOf146
  v53 := Try.zeroValue146
  t70 := Try.underlying92
  a70 := Try.isAgg92
  z70 := Try.sizeOf92
  v70 := Try.zeroValue92
  t72 := Try.underlying95
  a72 := Try.isAgg95
  z72 := Try.sizeOf95
  v72 := Try.zeroValue95
  t75 := Try.underlying97
  a75 := Try.isAgg97
  z75 := Try.sizeOf97
  v75 := Try.zeroValue97
  t76 := Try.underlying98
  a76 := Try.isAgg98
  z76 := Try.sizeOf98
  v76 := Try.zeroValue98
  t109 := Try.underlying135
  a109 := Try.isAgg135
  z109 := Try.sizeOf135
  v109 := Try.zeroValue135
  t127 := Try.underlying116
  a127 := Try.isAgg116
  z127 := Try.sizeOf116
  v127 := Try.zeroValue116
  t146 := Try.underlying144
  a146 := Try.isAgg144
  z146 := Try.sizeOf144
  v146 := Try.zeroValue144
  t148 := Try.underlying147
  a148 := Try.isAgg147
  z148 := Try.sizeOf147
  v148 := Try.zeroValue147
  t164 := Try.underlying131
  a164 := Try.isAgg131
  z164 := Try.sizeOf131
  v164 := Try.zeroValue131 }
theorem Try.Builder_Extra_105 : Builder.Extra Try.prog Try.lays105_ren := {
  sizeBuilder := by kernel_rfl
  liesBuilder := by kernel_rfl
  t5 := Try.underlying5
  a5 := Try.isAgg5
  z5 := Try.sizeOf5
  v5 := Try.zeroValue5
  infoByte := by kernel_rfl
  cellsByte := by kernel_rfl
  sizeByte := by kernel_rfl
  neB5 := by decide }
open Go.RowKit Go.Lib in
theorem Try.strings_Repeat (s : ByteArray) (c : Nat) (w : World) (hc : c ≤ 9223372036854775807) (hlen : s.size * c ≤ 140737488355328) :
    Calls Try.prog 71 #[.string s, .int .i64 c] w fun e w' => e = .returned (.string ⟨(Lib.repeatL s.data.toList c).toArray⟩) ∧ Below w.heap.size w w' := Any.strings_Repeat Try.lays105 Try.Builder_Extra_105 s c w hc hlen
def Try.laysNm216_ren : Go.Shelf.Ren := ⟨fun | 16 => 75 | n => n, fun | 24 => 27 | 9 => 9 | 4 => 4 | n => n, fun | n => n⟩
theorem Try.laysNm216 : Go.Proofs.Lays2.n16 Try.prog Try.laysNm216_ren := {
  mixed := by kernel_rfl
  f16 := Try.func75.trans (congrArg some (by kernel_rfl))
  t4 := Try.underlying4
  a4 := Try.isAgg4
  z4 := Try.sizeOf4
  v4 := Try.zeroValue4
  t9 := Try.underlying9
  a9 := Try.isAgg9
  z9 := Try.sizeOf9
  v9 := Try.zeroValue9
  t24 := Try.underlying27
  a24 := Try.isAgg27
  z24 := Try.sizeOf27
  v24 := Try.zeroValue27
  i9 := by kernel_rfl }
open Go.RowKit Go.Lib in
theorem Try.slices_Clone_string (b off n c : Nat) (zs : List ByteArray) (w : World) (hz : n ≤ zs.length) (hbig : n * 16 ≤ 140737488355328) (hc : ∀ j, j < zs.length → w.cell? ⟨b, off + j, none⟩ = some (.string (zs.getD j ByteArray.empty))) :
    Calls Try.prog 75 #[.slice (some ⟨b, off, none⟩) n c] w fun e w' => ∃ v', e = .returned v' ∧ w'.ownsRow w.heap.size 9 1 v' n ((zs.take n).map (Value.string)) ∧ v' ≠ .slice none 0 0 ∧ Below w.heap.size w w' := Any.slices_Clone_string Try.laysNm216 b off n c zs w hz hbig hc
open Go.RowKit Go.Lib in
theorem Try.slices_Clone_string_nil (n c : Nat) (w : World) :
    Calls Try.prog 75 #[.slice none n c] w fun e w' => e = .returned (.slice none 0 0) ∧ w' = w := Any.slices_Clone_string_nil Try.laysNm216 n c w
open Go.RowKit Go.Lib in
theorem Try.slices_Clone_string_zero (a : Addr) (c : Nat) (w : World) :
    Calls Try.prog 75 #[.slice (some a) 0 c] w fun e w' => ∃ v', e = .returned v' ∧ w'.ownsRow w.heap.size 9 1 v' 0 [] ∧ v' ≠ .slice none 0 0 ∧ Below w.heap.size w w' := Any.slices_Clone_string_zero Try.laysNm216 a c w
def Try.lays194_ren : Go.Shelf.Ren := ⟨fun | 194 => 94 | n => n, fun | 31 => 27 | 9 => 9 | 3 => 3 | 4 => 4 | 0 => 0 | n => n, fun | n => n⟩
theorem Try.lays194 : Go.Proofs.Lays.n194 Try.prog Try.lays194_ren := {
  mixed := by kernel_rfl
  f194 := Try.func94.trans (congrArg some (by kernel_rfl))
  t0 := Try.underlying0
  a0 := Try.isAgg0
  z0 := Try.sizeOf0
  v0 := Try.zeroValue0
  t3 := Try.underlying3
  a3 := Try.isAgg3
  z3 := Try.sizeOf3
  v3 := Try.zeroValue3
  t4 := Try.underlying4
  a4 := Try.isAgg4
  z4 := Try.sizeOf4
  v4 := Try.zeroValue4
  t9 := Try.underlying9
  a9 := Try.isAgg9
  z9 := Try.sizeOf9
  v9 := Try.zeroValue9
  t31 := Try.underlying27
  a31 := Try.isAgg27
  z31 := Try.sizeOf27
  v31 := Try.zeroValue27 }
open Go.RowKit Go.Lib Go.Sort in
theorem Try.slices_Compact_string_empty (a : Option Addr) (cap : Nat) (w : World) :
    Calls Try.prog 94 #[.slice a 0 cap] w fun e w' => e = .returned (.slice a 0 cap) ∧ w' = w := Any.slices_Compact_string_empty Try.lays194 a cap w
open Go.RowKit Go.Sort in
theorem Try.slices_Sort_string_none (p : Option Addr) (cap : Nat) (w : World) :
    Calls Try.prog 93 #[.slice p 0 cap] w fun e w' => e = .returned (.tuple #[]) ∧ w' = w := Any.slices_Sort_string_none Try.lays190 p cap w
end Go.Proofs.Ytgboffefbpligaa
namespace Go.Proofs.Ytgboffefbpligaa
open Go.Proofs
open Go.W Go.RowKit
attribute [local irreducible] Decidable.decide
set_option linter.unusedSimpArgs false
set_option linter.unusedVariables false
structure BdAt (w : World) (b : Nat) (l : List UInt8) (ob : Option Nat) : Prop where
  get : ∃ p a c, w.heap[b]? = some (.cells #[p, .slice a l.length c] 95 (0, 0)) ∧ (p = .pointer none ∨ p = .pointer (some ⟨b, 0, none⟩)) ∧ OwnS w 5 1 a l.length c (Lib.byteCells l) ob
  ne : ∀ g, ob = some g → g ≠ b
theorem BdAt.new {w : World} {b : Nat} (h : w.heap[b]? = some (.cells #[.pointer none, .slice none 0 0] 95 (0, 0))) : BdAt w b [] none := ⟨⟨_, _, _, h, .inl rfl, OwnS.nil _ _ _⟩, fun g h => by cases h⟩
theorem BdAt.evo {X : List Nat} {w w' : World} {b : Nat} {l : List UInt8} {ob : Option Nat} (h : BdAt w b l ob) (he : Evo X w w') (h1 : b ∉ X) (h2 : ∀ g, ob = some g → g ∉ X) : BdAt w' b l ob := by
  obtain ⟨⟨p, a, c, h3, h4, h5⟩, h6⟩ := h
  exact ⟨⟨p, a, c, he.blk h3 h1, h4, h5.evo he h2⟩, h6⟩
theorem BdAt.evo0 {w w' : World} {b : Nat} {l : List UInt8} {ob : Option Nat} (h : BdAt w b l ob) (he : Evo [] w w') : BdAt w' b l ob := h.evo he (fun h => by cases h) (fun _ _ h => by cases h)
theorem BdAt.lt {w : World} {b : Nat} {l : List UInt8} {ob : Option Nat} (h : BdAt w b l ob) : b < w.heap.size := by
  obtain ⟨⟨p, a, c, h3, h4, h5⟩, h6⟩ := h
  exact blk_lt h3
theorem repeat_ok {w : World} (s : ByteArray) (c : Nat) (hc : s.size * c ≤ 140737488355328) (hc2 : c ≤ 1000000) :
    Calls Try.prog 71 #[.string s, .int .i64 (c : Nat)] w (Ret fun v w' => v = .string ⟨(Lib.repeatL s.data.toList c).toArray⟩ ∧ Evo [] w w') := by
  refine (Try.strings_Repeat s c w (by omega) hc).mono ?_
  rintro e w' ⟨rfl, h1⟩
  exact ⟨_, rfl, rfl, h1.os, h1.tape, h1.output, h1.size, fun b hb _ => h1.block b hb⟩
end Go.Proofs.Ytgboffefbpligaa
