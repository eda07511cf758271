/- The reference's Valid as a whole. -/
import Derived.Test.YtgboffefbpligaaTf
namespace Go.Proofs.Ytgboffefbpligaa
open Go.Proofs
open Go.W Go.RowKit
attribute [local irreducible] Decidable.decide
set_option linter.unusedSimpArgs false
set_option linter.unusedVariables false
theorem Try.build56 : Build Try.prog 56 #[(0, 1), (1, 1), (2, 1)] #[.int .i64 0, .int .i64 0, .slice none 0 0] := ⟨_, .agg #[.int .i64 0, .int .i64 0, .slice none 0 0], Try.underlying56, by kernel_rfl, rfl, fun w => by kernel_rfl⟩
theorem Try.fld56_0 : fieldB Try.prog 56 0 = some 0 := by kernel_rfl
theorem Try.fld56_1 : fieldB Try.prog 56 1 = some 1 := by kernel_rfl
theorem Try.goes21 : Goes Try.prog 21 := ⟨_, Try.func21, by kernel_rfl, by kernel_rfl⟩
theorem Try.goes37 : Goes Try.prog 37 := ⟨_, Try.func37, by kernel_rfl, by kernel_rfl⟩
theorem Try.goes38 : Goes Try.prog 38 := ⟨_, Try.func38, by kernel_rfl, by kernel_rfl⟩
theorem Try.goes39 : Goes Try.prog 39 := ⟨_, Try.func39, by kernel_rfl, by kernel_rfl⟩
theorem Try.goes40 : Goes Try.prog 40 := ⟨_, Try.func40, by kernel_rfl, by kernel_rfl⟩


theorem Brk.int (a k b : Int) : ∃ z, z = b + (if Brk a k then 1 else 0) := ⟨_, rfl⟩
theorem NodeF.bare {t : Rx} (h : NodeF t) : BareP t := ⟨h.zg, h.leaf, h.zr, h.zm1, h.zm2, h.zl, h.zc, h.zn⟩
theorem leafF {t : Rx} {b : Int} {st : St} (hk : t.kind = 2 ∨ t.kind = 3) (h1 : st.1 + 1 ≤ 8194) (hb : b ≤ 250) (hba : BareP t) :
    ((t.fine b st).isSome = true ↔ (t.kind = 2 → 0 ≤ t.r ∧ t.r ≤ 1114111) ∧ (t.kind = 3 → RangesOk t.ranges)) ∧ ∀ st', t.fine b st = some st' → st' = (st.1 + 1, st.2) := by
  have hks : t.kids = [] := List.length_eq_zero_iff.1 (by have := hba.zk; omega)
  have h7 : ¬ t.kind = 7 := by omega
  by_cases hp : (t.kind = 2 → 0 ≤ t.r ∧ t.r ≤ 1114111) ∧ (t.kind = 3 → RangesOk t.ranges)
  · have hf : NodeP t := (nodeP_iff t).2 ⟨by omega, by omega, hba.zr, hba.zg, hba.zm1, hba.zm2, hba.zl, hba.zc, hba.zn, fun k => (hp.1 k).1, fun k => (hp.1 k).2, hp.2, fun k => by omega, fun k => by omega, fun k => by omega, fun k => by omega, fun k => by omega, fun k => by omega, hba.zk⟩
    have e := fine_yes (x := t) (b := b) (st := st) ⟨h1, by rw [if_neg h7]; exact hb, hf, fun k => (h7 k).elim⟩
    rw [hks, if_neg h7, if_neg h7, fineKids] at e
    rw [e]
    exact ⟨⟨fun _ => hp, fun _ => rfl⟩, fun st' h => by cases h; rfl⟩
  · have e := fine_no (x := t) (b := b) (st := st) (fun h => hp (by have hf := (nodeP_iff t).1 h.2.2.1; exact ⟨fun k => ⟨hf.lit1 k, hf.lit2 k⟩, hf.cls⟩))
    rw [e]
    exact ⟨⟨fun h => (by cases h), fun h => (hp h).elim⟩, fun st' h => by cases h⟩

set_option maxHeartbeats 8000000 in
theorem cvalid_step {n : Nat} (ih : ∀ {w : World} {jb : Nat} {st : St} {a : Option Addr} {c : Nat} {ob : Option Nat} {vs : List Value} {t : Rx} {k b0 : Int} (hJ : CAt w jb st.1 st.2.length st.2 a c ob) (hx : RRx n (jb :: ob.toList) w vs t) (hst : StOk st) (hb0 : 0 ≤ b0) (hb1 : b0 ≤ 251), Calls Try.prog 21 #[.pointer (some ⟨jb, 0, none⟩), .agg vs.toArray, .int .i64 k, .int .i64 b0] w (Ret fun v w' => ∃ r, v = .bool r ∧ r = (t.fine (b0 + (if Brk t.kind k then 1 else 0)) st).isSome ∧ Evo (jb :: ob.toList) w w' ∧ ∀ st', t.fine (b0 + (if Brk t.kind k then 1 else 0)) st = some st' → StOk st' ∧ ∃ a' c' ob', CAt w' jb st'.1 st'.2.length st'.2 a' c' ob' ∧ ∀ g, ob' = some g → g ∈ ob.toList ∨ w.heap.size ≤ g)) {w : World} {jb : Nat} {st : St} {a : Option Addr} {c : Nat} {ob : Option Nat} {vs : List Value} {t : Rx} {k b0 : Int} (hJ : CAt w jb st.1 st.2.length st.2 a c ob) (hx : RRx (n + 1) (jb :: ob.toList) w vs t) (hst : StOk st) (hb0 : 0 ≤ b0) (hb1 : b0 ≤ 251) : Calls Try.prog 21 #[.pointer (some ⟨jb, 0, none⟩), .agg vs.toArray, .int .i64 k, .int .i64 b0] w (Ret fun v w' => ∃ r, v = .bool r ∧ r = (t.fine (b0 + (if Brk t.kind k then 1 else 0)) st).isSome ∧ Evo (jb :: ob.toList) w w' ∧ ∀ st', t.fine (b0 + (if Brk t.kind k then 1 else 0)) st = some st' → StOk st' ∧ ∃ a' c' ob', CAt w' jb st'.1 st'.2.length st'.2 a' c' ob' ∧ ∀ g, ob' = some g → g ∈ ob.toList ∨ w.heap.size ≤ g) := by
  obtain ⟨b, hb⟩ := Brk.int t.kind k b0
  rw [← hb]
  obtain ⟨hB, hO, hne⟩ := hJ
  have hAJN : Apart (some jb) ob := fun g h1 h2 => by cases h1; exact hne jb h2 rfl
  have hlt := blk_lt hB
  have hst1 := hst.1
  have hst2 := hst.2
  have hXlt : ∀ y, y ∈ jb :: ob.toList → y < w.heap.size := fun y hy => by
    rcases List.mem_cons.1 hy with h | h
    · rw [h]; exact hlt
    · have : ob = some y := by simpa using h
      subst this; exact hO.lt
  have hx0 := hx
  obtain ⟨m, ra, rc, ka, kc, hm, rfl, hrg, hk, bl1, bl2, bl3⟩ := hx.get
  obtain rfl : m = n := by omega
  have hrg0 := hrg
  obtain ⟨_, _, hke, hkc, e1⟩ := hk
  cases hke
  refine calls_of_cw (N := 169) Try.func21 rfl rfl rfl ?_
  refine cw_seq ?_
  refine cw_region ?_
  refine wl_boxA rfl rfl fun b5 w1 hB2 hs3 hw4 => ?_
  have hsz_b5 := hs3
  have hA5 := Apart.new (Lt.blk hB) hs3
  have hA6 := Apart.new (Lt.own hO) hs3
  have hG7 := Ge.new (Evo.refl (jb :: ob.toList) w) hs3
  have hE8 := (Evo.refl (jb :: ob.toList) w).then hw4
  have hB9 := hw4.blk0 hB
  have hO10 := hO.evo0 hw4
  refine wl_a ?_
  refine wl_nil (nrm_then ?_)
  refine cw_seq ?_
  refine cw_region ?_
  refine wl_m ?_
  refine wl_val rfl (ex_nilCheck rfl) ?_
  refine wl_val rfl (ex_fieldAddr rfl Try.fld56_0) ?_
  refine wl_val rfl (ex_load1 rfl Try.agg3 (cell_nth hB9 rfl)) ?_
  refine wl_val rfl (ex_add_i64 rfl rfl (by omega) (by omega)) ?_
  refine wl_val rfl (ex_nilCheck rfl) ?_
  refine wl_val rfl (ex_fieldAddr rfl Try.fld56_0) ?_
  refine wl_store1 rfl rfl (by first | rfl | assumption) Try.size3 hB9 rfl fun w11 hB12 hw13 => ?_
  have hE14 := hE8.step hw13 (fun y hy => .inl (by rw [List.mem_singleton.1 hy]; exact List.mem_cons_self ..))
  have hO15 := hO10.evo hw13 hAJN.symm.own1
  have hB16 := hw13.blk hB2 hA5.symm.nmem1
  try simp only [List.setIfInBounds_toArray, List.set_cons_zero, List.set_cons_succ, Nat.reduceAdd, Nat.zero_add, Nat.add_zero] at hB12
  refine wl_nil (nrm_then ?_)
  refine cw_seq ?_
  refine cw_cut (α := Int) (fun z => [(3, .int .i64 z)]) [(0, _), (5, _), (8, _)] (fun z wr => Evo [] w11 wr ∧ (z = b)) ⟨rfl, rfl, rfl, trivial⟩ ?_ ?_
  ·skip
   refine cw_seq ?_
   refine cw_region ?_
   refine wl_m ?_
   refine wl_val rfl (ex_fieldAddr rfl Try.fld25_0) ?_
   refine wl_val rfl (ex_load1 rfl Try.agg3 (cell_nth hB16 rfl)) ?_
   refine wl_call1 (vs := [_, _]) Try.goes37 rfl (brackets_ok k t.kind) rfl ?_
   rintro _ w17 ⟨rfl, hw18⟩
   have hE19 := hE14.then hw18
   have hE20 := (Evo.refl [] w11).then hw18
   have hB21 := hw18.blk0 hB12
   have hO22 := hO15.evo0 hw18
   have hB23 := hw18.blk0 hB16
   refine wl_nil (nrm_then ?_)
   refine cw_if rfl (fun hc21 => ?_) (fun hc21 => ?_)
   ·skip
    refine cw_region ?_
    refine wl_m ?_
    refine wl_val rfl (ex_add_i64 rfl rfl (by omega) (by omega)) ?_
    refine wl_a ?_
    refine wl_nil (nrm_same ?_)
    refine ⟨(b0 + 1), ⟨rfl, trivial⟩, ⟨rfl, rfl, rfl, trivial⟩, hE20, ?_⟩
    rw [hb, if_pos hc21]
   ·skip
    refine cw_skip (nrm_same ?_)
    refine ⟨b0, ⟨rfl, trivial⟩, ⟨rfl, rfl, rfl, trivial⟩, hE20, ?_⟩
    rw [hb, if_neg hc21]; omega
  ·skip
   rintro z w24 ⟨hV25, hz⟩
   refine nrm_then ?_
   show CW _ _ _ _ [(3, _), (0, _), (5, _), (8, _)] _
   have hE26 := hE14.then hV25
   have hB27 := hV25.blk0 hB12
   have hO28 := hO15.evo0 hV25
   have hB29 := hV25.blk0 hB16
   refine cw_seq ?_
   refine cw_seq ?_
   refine cw_region ?_
   refine wl_m ?_
   refine wl_val rfl (ex_nilCheck rfl) ?_
   refine wl_val rfl (ex_fieldAddr rfl Try.fld56_0) ?_
   refine wl_val rfl (ex_load1 rfl Try.agg3 (cell_nth hB27 rfl)) ?_
   refine wl_val rfl (ex_gtr rfl rfl) ?_
   refine wl_m ?_
   refine wl_split (t := 29) rfl (fun hs29 => ?_) (fun hs29 => ?_)
   ·skip
    refine wl_n ?_
    refine wl_n ?_
    refine wl_pt ?_
    refine wl_m ?_
    refine wl_n ?_
    refine wl_n ?_
    refine wl_n ?_
    refine wl_pt ?_
    refine wl_m ?_
    refine wl_n ?_
    refine wl_n ?_
    refine wl_n ?_
    refine wl_pt ?_
    refine wl_m ?_
    refine wl_n ?_
    refine wl_n ?_
    refine wl_n ?_
    refine wl_pt ?_
    refine wl_nil (nrm_then ?_)
    refine cw_true rfl ?_
    refine cw_seq ?_
    refine cw_region ?_
    refine wl_a ?_
    refine wl_nil (nrm_then ?_)
    refine cw_ret (ret_then (body_ret1 rfl rfl ?_))
    have hno := fine_no (x := t) (b := b) (st := st) (fun h => by obtain ⟨h1, h2, h3, h4⟩ := h; have hf := (nodeP_iff t).1 h3; (omega))
    exact ⟨false, rfl, by rw [hno]; rfl, hE26, fun st' h => by rw [hno] at h; cases h⟩
   ·skip
    refine wl_g ?_
    refine wl_m ?_
    refine wl_g ?_
    refine wl_val rfl (ex_gtr rfl rfl) ?_
    refine wl_pf ?_
    refine wl_m ?_
    refine wl_split (t := 33) rfl (fun hs33 => ?_) (fun hs33 => ?_)
    ·skip
     refine wl_n ?_
     refine wl_n ?_
     refine wl_n ?_
     refine wl_pt ?_
     refine wl_m ?_
     refine wl_n ?_
     refine wl_n ?_
     refine wl_n ?_
     refine wl_pt ?_
     refine wl_m ?_
     refine wl_n ?_
     refine wl_n ?_
     refine wl_n ?_
     refine wl_pt ?_
     refine wl_nil (nrm_then ?_)
     refine cw_true rfl ?_
     refine cw_seq ?_
     refine cw_region ?_
     refine wl_a ?_
     refine wl_nil (nrm_then ?_)
     refine cw_ret (ret_then (body_ret1 rfl rfl ?_))
     have hno := fine_no (x := t) (b := b) (st := st) (fun h => by obtain ⟨h1, h2, h3, h4⟩ := h; have hf := (nodeP_iff t).1 h3; (split at h2 <;> omega))
     exact ⟨false, rfl, by rw [hno]; rfl, hE26, fun st' h => by rw [hno] at h; cases h⟩
    ·skip
     refine wl_g ?_
     refine wl_val rfl (ex_fieldAddr rfl Try.fld25_0) ?_
     refine wl_g ?_
     refine wl_val rfl (ex_load1 rfl Try.agg3 (cell_nth hB29 rfl)) ?_
     refine wl_g ?_
     refine wl_val rfl (ex_lss rfl rfl) ?_
     refine wl_pf ?_
     refine wl_m ?_
     refine wl_split (t := 38) rfl (fun hs38 => ?_) (fun hs38 => ?_)
     ·skip
      refine wl_n ?_
      refine wl_n ?_
      refine wl_n ?_
      refine wl_pt ?_
      refine wl_m ?_
      refine wl_n ?_
      refine wl_n ?_
      refine wl_n ?_
      refine wl_pt ?_
      refine wl_nil (nrm_then ?_)
      refine cw_true rfl ?_
      refine cw_seq ?_
      refine cw_region ?_
      refine wl_a ?_
      refine wl_nil (nrm_then ?_)
      refine cw_ret (ret_then (body_ret1 rfl rfl ?_))
      have hno := fine_no (x := t) (b := b) (st := st) (fun h => by obtain ⟨h1, h2, h3, h4⟩ := h; have hf := (nodeP_iff t).1 h3; (have := hf.kind1; omega))
      exact ⟨false, rfl, by rw [hno]; rfl, hE26, fun st' h => by rw [hno] at h; cases h⟩
     ·skip
      refine wl_g ?_
      refine wl_val rfl (ex_fieldAddr rfl Try.fld25_0) ?_
      refine wl_g ?_
      refine wl_val rfl (ex_load1 rfl Try.agg3 (cell_nth hB29 rfl)) ?_
      refine wl_g ?_
      refine wl_val rfl (ex_gtr rfl rfl) ?_
      refine wl_pf ?_
      refine wl_m ?_
      refine wl_split (t := 43) rfl (fun hs43 => ?_) (fun hs43 => ?_)
      ·skip
       refine wl_n ?_
       refine wl_n ?_
       refine wl_n ?_
       refine wl_pt ?_
       refine wl_nil (nrm_then ?_)
       refine cw_true rfl ?_
       refine cw_seq ?_
       refine cw_region ?_
       refine wl_a ?_
       refine wl_nil (nrm_then ?_)
       refine cw_ret (ret_then (body_ret1 rfl rfl ?_))
       have hno := fine_no (x := t) (b := b) (st := st) (fun h => by obtain ⟨h1, h2, h3, h4⟩ := h; have hf := (nodeP_iff t).1 h3; (have := hf.kind2; omega))
       exact ⟨false, rfl, by rw [hno]; rfl, hE26, fun st' h => by rw [hno] at h; cases h⟩
      ·skip
       refine wl_g ?_
       refine wl_val rfl (ex_loadBlk rfl Try.agg25 Try.size25 hB29 rfl) ?_
       refine wl_g ?_
       refine wl_call1 (vs := [_]) Try.goes38 rfl (bare_ok (RRx.pers _ _ _ _ _ _ hE26 hx0)) rfl ?_
       rintro _ w30 ⟨bb, rfl, hbb, hw31⟩
       have hE32 := hE26.then hw31
       have hB33 := hw31.blk0 hB27
       have hO34 := hO28.evo0 hw31
       have hB35 := hw31.blk0 hB29
       refine wl_g ?_
       refine wl_val rfl (ex_notb rfl) ?_
       refine wl_pf ?_
       refine wl_nil (nrm_then ?_)
       refine cw_ifb rfl (fun hc47 => ?_) (fun hc47 => ?_)
       ·skip
        refine cw_seq ?_
        refine cw_region ?_
        refine wl_a ?_
        refine wl_nil (nrm_then ?_)
        refine cw_ret (ret_then (body_ret1 rfl rfl ?_))
        have hno := fine_no (x := t) (b := b) (st := st) (fun h => by obtain ⟨h1, h2, h3, h4⟩ := h; have hf := (nodeP_iff t).1 h3; (have := hbb.2 hf.bare; rw [this] at hc47; cases hc47))
        exact ⟨false, rfl, by rw [hno]; rfl, hE32, fun st' h => by rw [hno] at h; cases h⟩
       ·skip
        refine cw_skip (nrm_then ?_)
        refine cw_seq ?_
        refine cw_cut (α := Int × St × Option Addr × Nat × Option Nat) (fun x => [(3, .int .i64 x.1)]) [(0, _), (5, _)] (fun x wr => Evo (jb :: ob.toList) w wr ∧ ((0 ≤ x.1 ∧ x.1 ≤ 250) ∧ x.2.1 = (st.1 + 1, if t.kind = 7 then st.2 ++ [t.name] else st.2) ∧ t.fine b st = fineKids t.kids t.kind x.1 x.2.1 ∧ CAt wr jb x.2.1.1 x.2.1.2.length x.2.1.2 x.2.2.1 x.2.2.2.1 x.2.2.2.2 ∧ (∀ g, x.2.2.2.2 = some g → g ∈ ob.toList ∨ w.heap.size ≤ g) ∧ wr.heap[b5]? = some (.cells #[iv t.kind, .int .i32 t.r, .slice ra t.ranges.length rc, iv t.min, iv t.max, .bool t.lazy, iv t.cap, .string t.name, .slice ka t.kids.length kc] 25 (0, 0)) ∧ b5 ∉ jb :: x.2.2.2.2.toList)) ⟨rfl, rfl, trivial⟩ ?_ ?_
        ·skip
         refine cw_seq ?_
         have hba := hbb.1 (by simpa using hc47)
         refine cw_region ?_
         refine wl_val rfl (ex_fieldAddr rfl Try.fld25_0) ?_
         refine wl_val rfl (ex_load1 rfl Try.agg3 (cell_nth hB35 rfl)) ?_
         refine wl_nil (nrm_then ?_)
         refine cw_block ?_
         refine cw_seq ?_
         refine cw_region ?_
         refine wl_val rfl (ex_eql rfl rfl) ?_
         refine wl_a ?_
         refine wl_nil (nrm_then ?_)
         refine cw_if rfl (fun hc50 => ?_) (fun hc50 => ?_)
         ·skip
          refine cw_seq ?_
          refine cw_region ?_
          refine wl_val rfl (ex_fieldAddr rfl Try.fld25_1) ?_
          refine wl_val rfl (ex_load1 rfl Try.agg21 (cell_nth hB35 rfl)) ?_
          refine wl_val rfl (ex_geq rfl rfl) ?_
          refine wl_m ?_
          refine wl_split (t := 55) rfl (fun hs55 => ?_) (fun hs55 => ?_)
          ·skip
           refine wl_g ?_
           refine wl_val rfl (ex_fieldAddr rfl Try.fld25_1) ?_
           refine wl_g ?_
           refine wl_val rfl (ex_load1 rfl Try.agg21 (cell_nth hB35 rfl)) ?_
           refine wl_g ?_
           refine wl_val rfl (ex_leq rfl rfl) ?_
           refine wl_pt ?_
           refine wl_a ?_
           refine wl_nil (nrm_then ?_)
           refine cw_ret (ret_block (ret_then (ret_then (body_ret1 rfl rfl ?_))))
           have hlf := leafF (t := t) (b := b) (st := st) (by omega) (by omega) (by omega) hba
           refine ⟨_, rfl, Bool.eq_iff_iff.2 (by rw [hlf.1]; simp only [decide_eq_true_eq]; exact ⟨fun h => ⟨fun _ => ⟨by omega, h⟩, fun h => by omega⟩, fun h => (h.1 (by omega)).2⟩), hE32, fun st' h => ?_⟩
           rw [hlf.2 st' h]
           exact ⟨⟨by show st.2.length ≤ st.1 + 1; omega, by show st.1 + 1 ≤ 8194; omega⟩, a, c, ob, ⟨hB33, hO34, hne⟩, fun g hg => .inl (by simp [hg])⟩
          ·skip
           refine wl_n ?_
           refine wl_n ?_
           refine wl_n ?_
           refine wl_pf ?_
           refine wl_a ?_
           refine wl_nil (nrm_then ?_)
           refine cw_ret (ret_block (ret_then (ret_then (body_ret1 rfl rfl ?_))))
           have hlf := leafF (t := t) (b := b) (st := st) (by omega) (by omega) (by omega) hba
           refine ⟨_, rfl, Bool.eq_iff_iff.2 (by rw [hlf.1]; simp only [Bool.false_eq_true, false_iff]; intro h; have := h.1 (by omega); omega), hE32, fun st' h => ?_⟩
           rw [hlf.2 st' h]
           exact ⟨⟨by show st.2.length ≤ st.1 + 1; omega, by show st.1 + 1 ≤ 8194; omega⟩, a, c, ob, ⟨hB33, hO34, hne⟩, fun g hg => .inl (by simp [hg])⟩
         ·skip
          refine cw_seq ?_
          refine cw_region ?_
          refine wl_val rfl (ex_eql rfl rfl) ?_
          refine wl_a ?_
          refine wl_nil (nrm_then ?_)
          refine cw_if rfl (fun hc60 => ?_) (fun hc60 => ?_)
          ·skip
           refine cw_seq ?_
           refine cw_region ?_
           refine wl_val rfl (ex_fieldAddr rfl Try.fld25_2) ?_
           refine wl_val rfl (ex_load1 rfl Try.agg22 (cell_nth hB35 rfl)) ?_
           refine wl_call1 (vs := [_]) Try.goes39 rfl (ranges_ok (RSl.evo RRg.pers hE32 hrg0) bl1) rfl ?_
           rintro _ w36 ⟨rb, rfl, hrb, hw37⟩
           have hE38 := hE32.then hw37
           have hB39 := hw37.blk0 hB33
           have hO40 := hO34.evo0 hw37
           have hB41 := hw37.blk0 hB35
           refine wl_a ?_
           refine wl_nil (nrm_then ?_)
           refine cw_ret (ret_block (ret_then (ret_then (body_ret1 rfl rfl ?_))))
           have hlf := leafF (t := t) (b := b) (st := st) (by omega) (by omega) (by omega) hba
           refine ⟨_, rfl, Bool.eq_iff_iff.2 (by rw [hlf.1]; rw [hrb]; exact ⟨fun h => ⟨fun h => by omega, fun _ => h⟩, fun h => h.2 (by omega)⟩), hE38, fun st' h => ?_⟩
           rw [hlf.2 st' h]
           exact ⟨⟨by show st.2.length ≤ st.1 + 1; omega, by show st.1 + 1 ≤ 8194; omega⟩, a, c, ob, ⟨hB39, hO40, hne⟩, fun g hg => .inl (by simp [hg])⟩
          ·skip
           refine cw_seq ?_
           refine cw_seq ?_
           refine cw_region ?_
           refine wl_val rfl (ex_eql rfl rfl) ?_
           refine wl_a ?_
           refine wl_nil (nrm_then ?_)
           refine cw_if rfl (fun hc65 => ?_) (fun hc65 => ?_)
           ·skip
            refine cw_skip (nrm_then ?_)
            refine cw_if rfl (fun hc65 => ?_) (fun hc65 => ?_)
            ·skip
             refine cw_seq ?_
             refine cw_region ?_
             refine wl_val rfl (ex_fieldAddr rfl Try.fld25_8) ?_
             refine wl_val rfl (ex_load1 rfl Try.agg23 (cell_nth hB35 rfl)) ?_
             refine wl_val rfl (ex_len_slice rfl Try.underlying23 rfl) ?_
             refine wl_val rfl (ex_lss rfl rfl) ?_
             refine wl_nil (nrm_then ?_)
             refine cw_if rfl (fun hc71 => ?_) (fun hc71 => ?_)
             ·skip
              refine cw_seq ?_
              refine cw_region ?_
              refine wl_a ?_
              refine wl_nil (nrm_then ?_)
              refine cw_ret (ret_block (ret_then (ret_then (body_ret1 rfl rfl ?_))))
              have hno := fine_no (x := t) (b := b) (st := st) (fun h => by obtain ⟨h1, h2, h3, h4⟩ := h; have hf := (nodeP_iff t).1 h3; (have := hf.two; omega))
              exact ⟨false, rfl, by rw [hno]; rfl, hE32, fun st' h => by rw [hno] at h; cases h⟩
             ·skip
              refine cw_skip (nrm_block (nrm_same ?_))
              refine ⟨(z, (st.1 + 1, st.2), a, c, ob), ⟨rfl, trivial⟩, ⟨rfl, rfl, trivial⟩, hE32, ?_⟩
              have hfin0 := fine_yes (x := t) (b := b) (st := st) ⟨by omega, (by rw [if_neg (by omega)]; omega), (nodeP_iff t).2 ⟨by omega, by omega, hba.zr, hba.zg, hba.zm1, hba.zm2, hba.zl, hba.zc, hba.zn, fun k => by omega, fun k => by omega, fun k => by omega, fun k => by omega, fun k => by omega, fun k => by omega, fun k => by omega, fun k => by omega, fun k => by omega, hba.zk⟩, fun h => by omega⟩
              refine ⟨by simp only; omega, by simp only; rw [if_neg (by omega)], ?_, ?_, fun g hg => .inl (by have h9 : ob = some g := hg; simp [h9]), hB35, nmem2 hA5.symm hA6.symm⟩
              · rw [hfin0, if_neg (by omega), if_neg (by omega), hz]
              · exact ⟨by simpa [List.length_append] using hB33, hO34, hne⟩
            ·skip
             refine cw_seq ?_
             refine cw_region ?_
             refine wl_val rfl (ex_eql rfl rfl) ?_
             refine wl_a ?_
             refine wl_nil (nrm_then ?_)
             refine cw_if rfl (fun hc72 => ?_) (fun hc72 => ?_)
             ·skip
              refine cw_seq ?_
              refine cw_region ?_
              refine wl_val rfl (ex_fieldAddr rfl Try.fld25_8) ?_
              refine wl_val rfl (ex_load1 rfl Try.agg23 (cell_nth hB35 rfl)) ?_
              refine wl_val rfl (ex_len_slice rfl Try.underlying23 rfl) ?_
              refine wl_val rfl (ex_neq rfl rfl) ?_
              refine wl_m ?_
              refine wl_split (t := 78) rfl (fun hs78 => ?_) (fun hs78 => ?_)
              ·skip
               refine wl_n ?_
               refine wl_n ?_
               refine wl_n ?_
               refine wl_pt ?_
               refine wl_m ?_
               refine wl_n ?_
               refine wl_n ?_
               refine wl_n ?_
               refine wl_pt ?_
               refine wl_m ?_
               refine wl_n ?_
               refine wl_n ?_
               refine wl_n ?_
               refine wl_pt ?_
               refine wl_m ?_
               refine wl_n ?_
               refine wl_n ?_
               refine wl_n ?_
               refine wl_pt ?_
               refine wl_m ?_
               refine wl_n ?_
               refine wl_n ?_
               refine wl_n ?_
               refine wl_n ?_
               refine wl_u ?_
               refine wl_u ?_
               refine wl_u ?_
               refine wl_u ?_
               refine wl_u ?_
               refine wl_n ?_
               refine wl_pt ?_
               refine wl_nil (nrm_then ?_)
               refine cw_true rfl ?_
               refine cw_seq ?_
               refine cw_region ?_
               refine wl_a ?_
               refine wl_nil (nrm_then ?_)
               refine cw_ret (ret_block (ret_then (ret_then (body_ret1 rfl rfl ?_))))
               have hno := fine_no (x := t) (b := b) (st := st) (fun h => by obtain ⟨h1, h2, h3, h4⟩ := h; have hf := (nodeP_iff t).1 h3; (have f1 := hf.rep1; have f2 := hf.rep2; have f3 := hf.rep3; have f4 := hf.rep4; omega))
               exact ⟨false, rfl, by rw [hno]; rfl, hE32, fun st' h => by rw [hno] at h; cases h⟩
              ·skip
               refine wl_g ?_
               refine wl_val rfl (ex_fieldAddr rfl Try.fld25_3) ?_
               refine wl_g ?_
               refine wl_val rfl (ex_load1 rfl Try.agg3 (cell_nth hB35 rfl)) ?_
               refine wl_g ?_
               refine wl_val rfl (ex_lss rfl rfl) ?_
               refine wl_pf ?_
               refine wl_m ?_
               refine wl_split (t := 83) rfl (fun hs83 => ?_) (fun hs83 => ?_)
               ·skip
                refine wl_n ?_
                refine wl_n ?_
                refine wl_n ?_
                refine wl_pt ?_
                refine wl_m ?_
                refine wl_n ?_
                refine wl_n ?_
                refine wl_n ?_
                refine wl_pt ?_
                refine wl_m ?_
                refine wl_n ?_
                refine wl_n ?_
                refine wl_n ?_
                refine wl_pt ?_
                refine wl_m ?_
                refine wl_n ?_
                refine wl_n ?_
                refine wl_n ?_
                refine wl_n ?_
                refine wl_u ?_
                refine wl_u ?_
                refine wl_u ?_
                refine wl_u ?_
                refine wl_u ?_
                refine wl_n ?_
                refine wl_pt ?_
                refine wl_nil (nrm_then ?_)
                refine cw_true rfl ?_
                refine cw_seq ?_
                refine cw_region ?_
                refine wl_a ?_
                refine wl_nil (nrm_then ?_)
                refine cw_ret (ret_block (ret_then (ret_then (body_ret1 rfl rfl ?_))))
                have hno := fine_no (x := t) (b := b) (st := st) (fun h => by obtain ⟨h1, h2, h3, h4⟩ := h; have hf := (nodeP_iff t).1 h3; (have f1 := hf.rep1; have f2 := hf.rep2; have f3 := hf.rep3; have f4 := hf.rep4; omega))
                exact ⟨false, rfl, by rw [hno]; rfl, hE32, fun st' h => by rw [hno] at h; cases h⟩
               ·skip
                refine wl_g ?_
                refine wl_val rfl (ex_fieldAddr rfl Try.fld25_3) ?_
                refine wl_g ?_
                refine wl_val rfl (ex_load1 rfl Try.agg3 (cell_nth hB35 rfl)) ?_
                refine wl_g ?_
                refine wl_val rfl (ex_gtr rfl rfl) ?_
                refine wl_pf ?_
                refine wl_m ?_
                refine wl_split (t := 88) rfl (fun hs88 => ?_) (fun hs88 => ?_)
                ·skip
                 refine wl_n ?_
                 refine wl_n ?_
                 refine wl_n ?_
                 refine wl_pt ?_
                 refine wl_m ?_
                 refine wl_n ?_
                 refine wl_n ?_
                 refine wl_n ?_
                 refine wl_pt ?_
                 refine wl_m ?_
                 refine wl_n ?_
                 refine wl_n ?_
                 refine wl_n ?_
                 refine wl_n ?_
                 refine wl_u ?_
                 refine wl_u ?_
                 refine wl_u ?_
                 refine wl_u ?_
                 refine wl_u ?_
                 refine wl_n ?_
                 refine wl_pt ?_
                 refine wl_nil (nrm_then ?_)
                 refine cw_true rfl ?_
                 refine cw_seq ?_
                 refine cw_region ?_
                 refine wl_a ?_
                 refine wl_nil (nrm_then ?_)
                 refine cw_ret (ret_block (ret_then (ret_then (body_ret1 rfl rfl ?_))))
                 have hno := fine_no (x := t) (b := b) (st := st) (fun h => by obtain ⟨h1, h2, h3, h4⟩ := h; have hf := (nodeP_iff t).1 h3; (have f1 := hf.rep1; have f2 := hf.rep2; have f3 := hf.rep3; have f4 := hf.rep4; omega))
                 exact ⟨false, rfl, by rw [hno]; rfl, hE32, fun st' h => by rw [hno] at h; cases h⟩
                ·skip
                 refine wl_g ?_
                 refine wl_val rfl (ex_fieldAddr rfl Try.fld25_4) ?_
                 refine wl_g ?_
                 refine wl_val rfl (ex_load1 rfl Try.agg3 (cell_nth hB35 rfl)) ?_
                 refine wl_g ?_
                 refine wl_val rfl (ex_lss rfl rfl) ?_
                 refine wl_pf ?_
                 refine wl_m ?_
                 refine wl_split (t := 93) rfl (fun hs93 => ?_) (fun hs93 => ?_)
                 ·skip
                  refine wl_n ?_
                  refine wl_n ?_
                  refine wl_n ?_
                  refine wl_pt ?_
                  refine wl_m ?_
                  refine wl_n ?_
                  refine wl_n ?_
                  refine wl_n ?_
                  refine wl_n ?_
                  refine wl_u ?_
                  refine wl_u ?_
                  refine wl_u ?_
                  refine wl_u ?_
                  refine wl_u ?_
                  refine wl_n ?_
                  refine wl_pt ?_
                  refine wl_nil (nrm_then ?_)
                  refine cw_true rfl ?_
                  refine cw_seq ?_
                  refine cw_region ?_
                  refine wl_a ?_
                  refine wl_nil (nrm_then ?_)
                  refine cw_ret (ret_block (ret_then (ret_then (body_ret1 rfl rfl ?_))))
                  have hno := fine_no (x := t) (b := b) (st := st) (fun h => by obtain ⟨h1, h2, h3, h4⟩ := h; have hf := (nodeP_iff t).1 h3; (have f1 := hf.rep1; have f2 := hf.rep2; have f3 := hf.rep3; have f4 := hf.rep4; omega))
                  exact ⟨false, rfl, by rw [hno]; rfl, hE32, fun st' h => by rw [hno] at h; cases h⟩
                 ·skip
                  refine wl_g ?_
                  refine wl_val rfl (ex_fieldAddr rfl Try.fld25_4) ?_
                  refine wl_g ?_
                  refine wl_val rfl (ex_load1 rfl Try.agg3 (cell_nth hB35 rfl)) ?_
                  refine wl_g ?_
                  refine wl_val rfl (ex_gtr rfl rfl) ?_
                  refine wl_pf ?_
                  refine wl_m ?_
                  refine wl_split (t := 98) rfl (fun hs98 => ?_) (fun hs98 => ?_)
                  ·skip
                   refine wl_n ?_
                   refine wl_n ?_
                   refine wl_n ?_
                   refine wl_n ?_
                   refine wl_u ?_
                   refine wl_u ?_
                   refine wl_u ?_
                   refine wl_u ?_
                   refine wl_u ?_
                   refine wl_n ?_
                   refine wl_pt ?_
                   refine wl_nil (nrm_then ?_)
                   refine cw_true rfl ?_
                   refine cw_seq ?_
                   refine cw_region ?_
                   refine wl_a ?_
                   refine wl_nil (nrm_then ?_)
                   refine cw_ret (ret_block (ret_then (ret_then (body_ret1 rfl rfl ?_))))
                   have hno := fine_no (x := t) (b := b) (st := st) (fun h => by obtain ⟨h1, h2, h3, h4⟩ := h; have hf := (nodeP_iff t).1 h3; (have f1 := hf.rep1; have f2 := hf.rep2; have f3 := hf.rep3; have f4 := hf.rep4; omega))
                   exact ⟨false, rfl, by rw [hno]; rfl, hE32, fun st' h => by rw [hno] at h; cases h⟩
                  ·skip
                   refine wl_g ?_
                   refine wl_val rfl (ex_fieldAddr rfl Try.fld25_4) ?_
                   refine wl_g ?_
                   refine wl_val rfl (ex_load1 rfl Try.agg3 (cell_nth hB35 rfl)) ?_
                   refine wl_g ?_
                   refine wl_val rfl (ex_geq rfl rfl) ?_
                   refine wl_g ?_
                   refine wl_m ?_
                   refine wl_split (t := 102) rfl (fun hs102 => ?_) (fun hs102 => ?_)
                   ·skip
                    refine wl_g ?_
                    refine wl_val rfl (ex_fieldAddr rfl Try.fld25_4) ?_
                    refine wl_g ?_
                    refine wl_val rfl (ex_load1 rfl Try.agg3 (cell_nth hB35 rfl)) ?_
                    refine wl_g ?_
                    refine wl_val rfl (ex_fieldAddr rfl Try.fld25_3) ?_
                    refine wl_g ?_
                    refine wl_val rfl (ex_load1 rfl Try.agg3 (cell_nth hB35 rfl)) ?_
                    refine wl_g ?_
                    refine wl_val rfl (ex_lss rfl rfl) ?_
                    refine wl_g ?_
                    refine wl_pt ?_
                    refine wl_pf ?_
                    refine wl_nil (nrm_then ?_)
                    refine cw_if rfl (fun hc109 => ?_) (fun hc109 => ?_)
                    ·skip
                     refine cw_seq ?_
                     refine cw_region ?_
                     refine wl_a ?_
                     refine wl_nil (nrm_then ?_)
                     refine cw_ret (ret_block (ret_then (ret_then (body_ret1 rfl rfl ?_))))
                     have hno := fine_no (x := t) (b := b) (st := st) (fun h => by obtain ⟨h1, h2, h3, h4⟩ := h; have hf := (nodeP_iff t).1 h3; (have f1 := hf.rep1; have f2 := hf.rep2; have f3 := hf.rep3; have f4 := hf.rep4; omega))
                     exact ⟨false, rfl, by rw [hno]; rfl, hE32, fun st' h => by rw [hno] at h; cases h⟩
                    ·skip
                     refine cw_skip (nrm_block (nrm_same ?_))
                     refine ⟨(z, (st.1 + 1, st.2), a, c, ob), ⟨rfl, trivial⟩, ⟨rfl, rfl, trivial⟩, hE32, ?_⟩
                     have hfin0 := fine_yes (x := t) (b := b) (st := st) ⟨by omega, (by rw [if_neg (by omega)]; omega), (nodeP_iff t).2 ⟨by omega, by omega, hba.zr, hba.zg, hba.zm1, hba.zm2, hba.zl, hba.zc, hba.zn, fun k => by omega, fun k => by omega, fun k => by omega, fun k => by omega, fun k => by omega, fun k => by omega, fun k => by omega, fun k => by omega, fun k => by omega, hba.zk⟩, fun h => by omega⟩
                     refine ⟨by simp only; omega, by simp only; rw [if_neg (by omega)], ?_, ?_, fun g hg => .inl (by have h9 : ob = some g := hg; simp [h9]), hB35, nmem2 hA5.symm hA6.symm⟩
                     · rw [hfin0, if_neg (by omega), if_neg (by omega), hz]
                     · exact ⟨by simpa [List.length_append] using hB33, hO34, hne⟩
                   ·skip
                    refine wl_n ?_
                    refine wl_n ?_
                    refine wl_n ?_
                    refine wl_n ?_
                    refine wl_n ?_
                    refine wl_g ?_
                    refine wl_pf ?_
                    refine wl_pf ?_
                    refine wl_nil (nrm_then ?_)
                    refine cw_false rfl ?_
                    refine cw_skip (nrm_block (nrm_same ?_))
                    refine ⟨(z, (st.1 + 1, st.2), a, c, ob), ⟨rfl, trivial⟩, ⟨rfl, rfl, trivial⟩, hE32, ?_⟩
                    have hfin0 := fine_yes (x := t) (b := b) (st := st) ⟨by omega, (by rw [if_neg (by omega)]; omega), (nodeP_iff t).2 ⟨by omega, by omega, hba.zr, hba.zg, hba.zm1, hba.zm2, hba.zl, hba.zc, hba.zn, fun k => by omega, fun k => by omega, fun k => by omega, fun k => by omega, fun k => by omega, fun k => by omega, fun k => by omega, fun k => by omega, fun k => by omega, hba.zk⟩, fun h => by omega⟩
                    refine ⟨by simp only; omega, by simp only; rw [if_neg (by omega)], ?_, ?_, fun g hg => .inl (by have h9 : ob = some g := hg; simp [h9]), hB35, nmem2 hA5.symm hA6.symm⟩
                    · rw [hfin0, if_neg (by omega), if_neg (by omega), hz]
                    · exact ⟨by simpa [List.length_append] using hB33, hO34, hne⟩
             ·skip
              refine cw_seq ?_
              refine cw_region ?_
              refine wl_val rfl (ex_eql rfl rfl) ?_
              refine wl_a ?_
              refine wl_nil (nrm_then ?_)
              refine cw_if rfl (fun hc110 => ?_) (fun hc110 => ?_)
              ·skip
               refine cw_seq ?_
               refine cw_region ?_
               refine wl_m ?_
               refine wl_val rfl (ex_nilCheck rfl) ?_
               refine wl_val rfl (ex_fieldAddr rfl Try.fld56_1) ?_
               refine wl_val rfl (ex_load1 rfl Try.agg3 (cell_nth hB33 rfl)) ?_
               refine wl_val rfl (ex_add_i64 rfl rfl (by omega) (by omega)) ?_
               refine wl_val rfl (ex_nilCheck rfl) ?_
               refine wl_val rfl (ex_fieldAddr rfl Try.fld56_1) ?_
               refine wl_store1 rfl rfl (by first | rfl | assumption) Try.size3 hB33 rfl fun w42 hB43 hw44 => ?_
               have hE45 := hE32.step hw44 (fun y hy => .inl (by rw [List.mem_singleton.1 hy]; exact List.mem_cons_self ..))
               have hO46 := hO34.evo hw44 hAJN.symm.own1
               have hB47 := hw44.blk hB35 hA5.symm.nmem1
               try simp only [List.setIfInBounds_toArray, List.set_cons_zero, List.set_cons_succ, Nat.reduceAdd, Nat.zero_add, Nat.add_zero] at hB43
               refine wl_nil (nrm_then ?_)
               refine cw_seq ?_
               refine cw_seq ?_
               refine cw_any (fun w0 w' => Evo (jb :: ob.toList) w0 w') (by kernel_rfl) (fun w48 hw49 => ?_)
               have hE50 := hE45.then hw49
               have hB51 := hw49.blk0 hB43
               have hO52 := hO46.evo0 hw49
               have hB53 := hw49.blk0 hB47
               refine ae_take 0 rfl (by kernel_rfl) (by kernel_rfl) (by kernel_rfl) rfl (fun _ hS => ex_fieldAddr rfl Try.fld25_8) (Evo.refl (jb :: ob.toList) w48) ?_
               refine ae_take 1 rfl (by kernel_rfl) (by kernel_rfl) (by kernel_rfl) rfl (fun _ hS => ex_load1 rfl Try.agg23 (cell_nth (hS.blk hB53 (nmem2 hA5.symm hA6.symm)) rfl)) (Evo.refl (jb :: ob.toList) w48) ?_
               refine ae_take 2 rfl (by kernel_rfl) (by kernel_rfl) (by kernel_rfl) rfl (fun _ hS => ex_len_slice rfl Try.underlying23 rfl) (Evo.refl (jb :: ob.toList) w48) ?_
               refine ae_take 3 rfl (by kernel_rfl) (by kernel_rfl) (by kernel_rfl) rfl (fun _ hS => ex_neq rfl rfl) (Evo.refl (jb :: ob.toList) w48) ?_
               refine ae_take 4 rfl (by kernel_rfl) (by kernel_rfl) (by kernel_rfl) rfl (fun _ hS => ex_move rfl) (Evo.refl (jb :: ob.toList) w48) ?_
               refine ae_split (t := 123) rfl (fun hs123 => ?_) (fun hs123 => ?_)
               ·skip
                refine ae_takeN 5 rfl rfl rfl rfl rfl rfl (by kernel_rfl) (by kernel_rfl) (by kernel_rfl) rfl (Evo.refl (jb :: ob.toList) w48) ?_
                refine ae_takeN 6 rfl rfl rfl rfl rfl rfl (by kernel_rfl) (by kernel_rfl) (by kernel_rfl) rfl (Evo.refl (jb :: ob.toList) w48) ?_
                refine ae_takeN 7 rfl rfl rfl rfl rfl rfl (by kernel_rfl) (by kernel_rfl) (by kernel_rfl) rfl (Evo.refl (jb :: ob.toList) w48) ?_
                refine ae_takeN 8 rfl rfl rfl rfl rfl rfl (by kernel_rfl) (by kernel_rfl) (by kernel_rfl) rfl (Evo.refl (jb :: ob.toList) w48) ?_
                refine ae_takeN 9 rfl rfl rfl rfl rfl rfl (by kernel_rfl) (by kernel_rfl) (by kernel_rfl) rfl (Evo.refl (jb :: ob.toList) w48) ?_
                refine ae_loud [10] (by kernel_rfl) rfl ⟨?_, trivial⟩
                refine a_step rfl ?_
                refine wl_n ?_
                refine wl_nil (ae_next (.inl (Evo.refl (jb :: ob.toList) w48)) ?_)
                refine ae_takeN 11 rfl rfl rfl rfl rfl rfl (by kernel_rfl) (by kernel_rfl) (by kernel_rfl) rfl (Evo.refl (jb :: ob.toList) w48) ?_
                refine ae_take 12 rfl (by kernel_rfl) (by kernel_rfl) (by kernel_rfl) rfl (fun _ hS => ex_pick_t rfl rfl) (Evo.refl (jb :: ob.toList) w48) ?_
                refine ae_take 13 rfl (by kernel_rfl) (by kernel_rfl) (by kernel_rfl) rfl (fun _ hS => ex_move rfl) (Evo.refl (jb :: ob.toList) w48) ?_
                refine ae_takeN 14 rfl rfl rfl rfl rfl rfl (by kernel_rfl) (by kernel_rfl) (by kernel_rfl) rfl (Evo.refl (jb :: ob.toList) w48) ?_
                refine ae_takeN 15 rfl rfl rfl rfl rfl rfl (by kernel_rfl) (by kernel_rfl) (by kernel_rfl) rfl (Evo.refl (jb :: ob.toList) w48) ?_
                refine ae_takeN 16 rfl rfl rfl rfl rfl rfl (by kernel_rfl) (by kernel_rfl) (by kernel_rfl) rfl (Evo.refl (jb :: ob.toList) w48) ?_
                refine ae_loud [17] (by kernel_rfl) rfl ⟨?_, trivial⟩
                refine a_step rfl ?_
                refine wl_n ?_
                refine wl_nil (ae_next (.inl (Evo.refl (jb :: ob.toList) w48)) ?_)
                refine ae_takeN 18 rfl rfl rfl rfl rfl rfl (by kernel_rfl) (by kernel_rfl) (by kernel_rfl) rfl (Evo.refl (jb :: ob.toList) w48) ?_
                refine ae_take 19 rfl (by kernel_rfl) (by kernel_rfl) (by kernel_rfl) rfl (fun _ hS => ex_pick_t rfl rfl) (Evo.refl (jb :: ob.toList) w48) ?_
                refine ae_take 20 rfl (by kernel_rfl) (by kernel_rfl) (by kernel_rfl) rfl (fun _ hS => ex_move rfl) (Evo.refl (jb :: ob.toList) w48) ?_
                refine ae_takeN 21 rfl rfl rfl rfl rfl rfl (by kernel_rfl) (by kernel_rfl) (by kernel_rfl) rfl (Evo.refl (jb :: ob.toList) w48) ?_
                refine ae_takeN 22 rfl rfl rfl rfl rfl rfl (by kernel_rfl) (by kernel_rfl) (by kernel_rfl) rfl (Evo.refl (jb :: ob.toList) w48) ?_
                refine ae_takeN 23 rfl rfl rfl rfl rfl rfl (by kernel_rfl) (by kernel_rfl) (by kernel_rfl) rfl (Evo.refl (jb :: ob.toList) w48) ?_
                refine ae_loud [24] (by kernel_rfl) rfl ⟨?_, trivial⟩
                refine a_step rfl ?_
                refine wl_n ?_
                refine wl_nil (ae_next (.inl (Evo.refl (jb :: ob.toList) w48)) ?_)
                refine ae_takeN 25 rfl rfl rfl rfl rfl rfl (by kernel_rfl) (by kernel_rfl) (by kernel_rfl) rfl (Evo.refl (jb :: ob.toList) w48) ?_
                refine ae_take 26 rfl (by kernel_rfl) (by kernel_rfl) (by kernel_rfl) rfl (fun _ hS => ex_pick_t rfl rfl) (Evo.refl (jb :: ob.toList) w48) ?_
                refine ae_done (by kernel_rfl) (nrm_then ?_)
                refine cw_true rfl ?_
                refine cw_seq ?_
                refine cw_region ?_
                refine wl_a ?_
                refine wl_nil (nrm_then ?_)
                refine cw_ret (ret_then (ret_block (ret_then (ret_then (body_ret1 rfl rfl ?_)))))
                have hno := fine_no (x := t) (b := b) (st := st) (fun h => by obtain ⟨h1, h2, h3, h4⟩ := h; have hf := (nodeP_iff t).1 h3; (have := hf.grp; omega))
                exact ⟨false, rfl, by rw [hno]; rfl, hE50, fun st' h => by rw [hno] at h; cases h⟩
               ·skip
                refine ae_takeG 5 rfl rfl rfl rfl rfl (by kernel_rfl) (by kernel_rfl) (by kernel_rfl) rfl (fun _ hS => ex_fieldAddr rfl Try.fld25_6) (Evo.refl (jb :: ob.toList) w48) ?_
                refine ae_takeG 6 rfl rfl rfl rfl rfl (by kernel_rfl) (by kernel_rfl) (by kernel_rfl) rfl (fun _ hS => ex_load1 rfl Try.agg3 (cell_nth (hS.blk hB53 (nmem2 hA5.symm hA6.symm)) rfl)) (Evo.refl (jb :: ob.toList) w48) ?_
                refine ae_takeG 7 rfl rfl rfl rfl rfl (by kernel_rfl) (by kernel_rfl) (by kernel_rfl) rfl (fun _ hS => ex_move rfl) (Evo.refl (jb :: ob.toList) w48) ?_
                refine ae_takeG 8 rfl rfl rfl rfl rfl (by kernel_rfl) (by kernel_rfl) (by kernel_rfl) rfl (fun _ hS => ex_nilCheck rfl) (Evo.refl (jb :: ob.toList) w48) ?_
                refine ae_takeG 9 rfl rfl rfl rfl rfl (by kernel_rfl) (by kernel_rfl) (by kernel_rfl) rfl (fun _ hS => ex_fieldAddr rfl Try.fld56_1) (Evo.refl (jb :: ob.toList) w48) ?_
                refine ae_loud [10] (by kernel_rfl) rfl ⟨?_, trivial⟩
                refine a_step rfl ?_
                refine wl_g ?_
                refine wl_val rfl (ex_load1 rfl Try.agg3 (cell_nth hB51 rfl)) ?_
                refine wl_nil (ae_next (.inl (Evo.refl (jb :: ob.toList) w48)) ?_)
                refine ae_takeG 11 rfl rfl rfl rfl rfl (by kernel_rfl) (by kernel_rfl) (by kernel_rfl) rfl (fun _ hS => ex_neq rfl rfl) (Evo.refl (jb :: ob.toList) w48) ?_
                refine ae_take 12 rfl (by kernel_rfl) (by kernel_rfl) (by kernel_rfl) rfl (fun _ hS => ex_pick_f rfl rfl) (Evo.refl (jb :: ob.toList) w48) ?_
                refine ae_take 13 rfl (by kernel_rfl) (by kernel_rfl) (by kernel_rfl) rfl (fun _ hS => ex_move rfl) (Evo.refl (jb :: ob.toList) w48) ?_
                refine ae_split (t := 132) rfl (fun hs132 => ?_) (fun hs132 => ?_)
                ·skip
                 refine ae_takeN 14 rfl rfl rfl rfl rfl rfl (by kernel_rfl) (by kernel_rfl) (by kernel_rfl) rfl (Evo.refl (jb :: ob.toList) w48) ?_
                 refine ae_takeN 15 rfl rfl rfl rfl rfl rfl (by kernel_rfl) (by kernel_rfl) (by kernel_rfl) rfl (Evo.refl (jb :: ob.toList) w48) ?_
                 refine ae_takeN 16 rfl rfl rfl rfl rfl rfl (by kernel_rfl) (by kernel_rfl) (by kernel_rfl) rfl (Evo.refl (jb :: ob.toList) w48) ?_
                 refine ae_loud [17] (by kernel_rfl) rfl ⟨?_, trivial⟩
                 refine a_step rfl ?_
                 refine wl_n ?_
                 refine wl_nil (ae_next (.inl (Evo.refl (jb :: ob.toList) w48)) ?_)
                 refine ae_takeN 18 rfl rfl rfl rfl rfl rfl (by kernel_rfl) (by kernel_rfl) (by kernel_rfl) rfl (Evo.refl (jb :: ob.toList) w48) ?_
                 refine ae_take 19 rfl (by kernel_rfl) (by kernel_rfl) (by kernel_rfl) rfl (fun _ hS => ex_pick_t rfl rfl) (Evo.refl (jb :: ob.toList) w48) ?_
                 refine ae_take 20 rfl (by kernel_rfl) (by kernel_rfl) (by kernel_rfl) rfl (fun _ hS => ex_move rfl) (Evo.refl (jb :: ob.toList) w48) ?_
                 refine ae_takeN 21 rfl rfl rfl rfl rfl rfl (by kernel_rfl) (by kernel_rfl) (by kernel_rfl) rfl (Evo.refl (jb :: ob.toList) w48) ?_
                 refine ae_takeN 22 rfl rfl rfl rfl rfl rfl (by kernel_rfl) (by kernel_rfl) (by kernel_rfl) rfl (Evo.refl (jb :: ob.toList) w48) ?_
                 refine ae_takeN 23 rfl rfl rfl rfl rfl rfl (by kernel_rfl) (by kernel_rfl) (by kernel_rfl) rfl (Evo.refl (jb :: ob.toList) w48) ?_
                 refine ae_loud [24] (by kernel_rfl) rfl ⟨?_, trivial⟩
                 refine a_step rfl ?_
                 refine wl_n ?_
                 refine wl_nil (ae_next (.inl (Evo.refl (jb :: ob.toList) w48)) ?_)
                 refine ae_takeN 25 rfl rfl rfl rfl rfl rfl (by kernel_rfl) (by kernel_rfl) (by kernel_rfl) rfl (Evo.refl (jb :: ob.toList) w48) ?_
                 refine ae_take 26 rfl (by kernel_rfl) (by kernel_rfl) (by kernel_rfl) rfl (fun _ hS => ex_pick_t rfl rfl) (Evo.refl (jb :: ob.toList) w48) ?_
                 refine ae_done (by kernel_rfl) (nrm_then ?_)
                 refine cw_true rfl ?_
                 refine cw_seq ?_
                 refine cw_region ?_
                 refine wl_a ?_
                 refine wl_nil (nrm_then ?_)
                 refine cw_ret (ret_then (ret_block (ret_then (ret_then (body_ret1 rfl rfl ?_)))))
                 have hno := fine_no (x := t) (b := b) (st := st) (fun h => by obtain ⟨h1, h2, h3, h4⟩ := h; have hf := (nodeP_iff t).1 h3; (have := (h4 (by omega)).1; omega))
                 exact ⟨false, rfl, by rw [hno]; rfl, hE50, fun st' h => by rw [hno] at h; cases h⟩
                ·skip
                 refine ae_takeG 14 rfl rfl rfl rfl rfl (by kernel_rfl) (by kernel_rfl) (by kernel_rfl) rfl (fun _ hS => ex_move rfl) (Evo.refl (jb :: ob.toList) w48) ?_
                 refine ae_takeG 15 rfl rfl rfl rfl rfl (by kernel_rfl) (by kernel_rfl) (by kernel_rfl) rfl (fun _ hS => ex_nilCheck rfl) (Evo.refl (jb :: ob.toList) w48) ?_
                 refine ae_takeG 16 rfl rfl rfl rfl rfl (by kernel_rfl) (by kernel_rfl) (by kernel_rfl) rfl (fun _ hS => ex_fieldAddr rfl Try.fld56_1) (Evo.refl (jb :: ob.toList) w48) ?_
                 refine ae_loud [17] (by kernel_rfl) rfl ⟨?_, trivial⟩
                 refine a_step rfl ?_
                 refine wl_g ?_
                 refine wl_val rfl (ex_load1 rfl Try.agg3 (cell_nth hB51 rfl)) ?_
                 refine wl_nil (ae_next (.inl (Evo.refl (jb :: ob.toList) w48)) ?_)
                 refine ae_takeG 18 rfl rfl rfl rfl rfl (by kernel_rfl) (by kernel_rfl) (by kernel_rfl) rfl (fun _ hS => ex_gtr rfl rfl) (Evo.refl (jb :: ob.toList) w48) ?_
                 refine ae_take 19 rfl (by kernel_rfl) (by kernel_rfl) (by kernel_rfl) rfl (fun _ hS => ex_pick_f rfl rfl) (Evo.refl (jb :: ob.toList) w48) ?_
                 refine ae_take 20 rfl (by kernel_rfl) (by kernel_rfl) (by kernel_rfl) rfl (fun _ hS => ex_move rfl) (Evo.refl (jb :: ob.toList) w48) ?_
                 refine ae_split (t := 139) rfl (fun hs139 => ?_) (fun hs139 => ?_)
                 ·skip
                  refine ae_takeN 21 rfl rfl rfl rfl rfl rfl (by kernel_rfl) (by kernel_rfl) (by kernel_rfl) rfl (Evo.refl (jb :: ob.toList) w48) ?_
                  refine ae_takeN 22 rfl rfl rfl rfl rfl rfl (by kernel_rfl) (by kernel_rfl) (by kernel_rfl) rfl (Evo.refl (jb :: ob.toList) w48) ?_
                  refine ae_takeN 23 rfl rfl rfl rfl rfl rfl (by kernel_rfl) (by kernel_rfl) (by kernel_rfl) rfl (Evo.refl (jb :: ob.toList) w48) ?_
                  refine ae_loud [24] (by kernel_rfl) rfl ⟨?_, trivial⟩
                  refine a_step rfl ?_
                  refine wl_n ?_
                  refine wl_nil (ae_next (.inl (Evo.refl (jb :: ob.toList) w48)) ?_)
                  refine ae_takeN 25 rfl rfl rfl rfl rfl rfl (by kernel_rfl) (by kernel_rfl) (by kernel_rfl) rfl (Evo.refl (jb :: ob.toList) w48) ?_
                  refine ae_take 26 rfl (by kernel_rfl) (by kernel_rfl) (by kernel_rfl) rfl (fun _ hS => ex_pick_t rfl rfl) (Evo.refl (jb :: ob.toList) w48) ?_
                  refine ae_done (by kernel_rfl) (nrm_then ?_)
                  refine cw_true rfl ?_
                  refine cw_seq ?_
                  refine cw_region ?_
                  refine wl_a ?_
                  refine wl_nil (nrm_then ?_)
                  refine cw_ret (ret_then (ret_block (ret_then (ret_then (body_ret1 rfl rfl ?_)))))
                  have hno := fine_no (x := t) (b := b) (st := st) (fun h => by obtain ⟨h1, h2, h3, h4⟩ := h; have hf := (nodeP_iff t).1 h3; (have := (h4 (by omega)).1; have := (h4 (by omega)).2.1; omega))
                  exact ⟨false, rfl, by rw [hno]; rfl, hE50, fun st' h => by rw [hno] at h; cases h⟩
                 ·skip
                  refine ae_takeG 21 rfl rfl rfl rfl rfl (by kernel_rfl) (by kernel_rfl) (by kernel_rfl) rfl (fun _ hS => ex_move rfl) (Evo.refl (jb :: ob.toList) w48) ?_
                  have hszc := (hE50).size
                  have hlt5 := Lt.blk hB53
                  refine ae_takeG 22 rfl rfl rfl rfl rfl (by kernel_rfl) (by kernel_rfl) (by kernel_rfl) rfl (fun _ hS => ex_fieldAddr rfl Try.fld25_7) (Evo.refl (jb :: ob.toList) w48) ?_
                  refine ae_takeG 23 rfl rfl rfl rfl rfl (by kernel_rfl) (by kernel_rfl) (by kernel_rfl) rfl (fun _ hS => ex_load1 rfl Try.agg9 (cell_nth (hS.blk hB53 (nmem2 hA5.symm hA6.symm)) rfl)) (Evo.refl (jb :: ob.toList) w48) ?_
                  refine ae_loud [24] (by kernel_rfl) rfl ⟨?_, trivial⟩
                  refine a_step rfl ?_
                  refine wl_g ?_
                  refine wl_call1 (vs := [_, _]) Try.goes40 rfl (name_ok ⟨hB51, hO52, hne⟩ (by omega) bl2) rfl ?_
                  rintro _ w54 ⟨gb, rfl, hgb, hw55, hgs⟩
                  have hE56 := hE50.step hw55 (fun y hy => .inl hy)
                  have hE57 := (Evo.refl (jb :: ob.toList) w48).step hw55 (fun y hy => .inl hy)
                  have hB58 := hw55.blk hB53 (nmem2 hA5.symm hA6.symm)
                  refine wl_nil (ae_next (.inl hE57) ?_)
                  refine ae_takeG 25 rfl rfl rfl rfl rfl (by kernel_rfl) (by kernel_rfl) (by kernel_rfl) rfl (fun _ hS => ex_notb rfl) hE57 ?_
                  refine ae_take 26 rfl (by kernel_rfl) (by kernel_rfl) (by kernel_rfl) rfl (fun _ hS => ex_pick_f rfl rfl) hE57 ?_
                  refine ae_done (by kernel_rfl) (nrm_then ?_)
                  refine cw_ifb rfl (fun hc145 => ?_) (fun hc145 => ?_)
                  ·skip
                   refine cw_seq ?_
                   refine cw_region ?_
                   refine wl_a ?_
                   refine wl_nil (nrm_then ?_)
                   refine cw_ret (ret_then (ret_block (ret_then (ret_then (body_ret1 rfl rfl ?_)))))
                   have hno := fine_no (x := t) (b := b) (st := st) (fun h => by obtain ⟨h1, h2, h3, h4⟩ := h; have hf := (nodeP_iff t).1 h3; (have := hgb.2 (h4 (by omega)).2.2; rw [this] at hc145; cases hc145))
                   exact ⟨false, rfl, by rw [hno]; rfl, hE56, fun st' h => by rw [hno] at h; cases h⟩
                  ·skip
                   obtain ⟨a2, c2, ob2, hJ2, hob2⟩ := hgs (by simpa using hc145)
                   have hgb2 := hgb.1 (by simpa using hc145)
                   have hAq5 := ap_ob hA6.symm hlt5 hob2
                   have hg9 : ∀ g, ob2 = some g → g ∈ ob.toList ∨ w.heap.size ≤ g := fun g hg => by rcases hob2 with h | ⟨g', h1, h2⟩; left; rw [← h, hg]; simp; right; rw [hg] at h1; cases h1; exact Nat.le_trans hszc h2
                   refine cw_skip (nrm_then ?_)
                   refine cw_seq ?_
                   refine cw_region ?_
                   refine wl_m ?_
                   refine wl_val rfl (ex_add_i64 rfl rfl (by omega) (by omega)) ?_
                   refine wl_a ?_
                   refine wl_nil (nrm_then ?_)
                   refine cw_seq ?_
                   refine cw_region ?_
                   refine wl_m ?_
                   refine wl_val rfl (ex_gtr rfl rfl) ?_
                   refine wl_nil (nrm_then ?_)
                   refine cw_if rfl (fun hc149 => ?_) (fun hc149 => ?_)
                   ·skip
                    refine cw_seq ?_
                    refine cw_region ?_
                    refine wl_a ?_
                    refine wl_nil (nrm_then ?_)
                    refine cw_ret (ret_block (ret_then (ret_then (body_ret1 rfl rfl ?_))))
                    have hno := fine_no (x := t) (b := b) (st := st) (fun h => by obtain ⟨h1, h2, h3, h4⟩ := h; have hf := (nodeP_iff t).1 h3; (rw [if_pos (by omega)] at h2; omega))
                    exact ⟨false, rfl, by rw [hno]; rfl, hE56, fun st' h => by rw [hno] at h; cases h⟩
                   ·skip
                    refine cw_skip (nrm_block (nrm_same ?_))
                    refine ⟨(z + 1, (st.1 + 1, st.2 ++ [t.name]), a2, c2, ob2), ⟨rfl, trivial⟩, ⟨rfl, rfl, trivial⟩, hE56, ?_⟩
                    have hfin0 := fine_yes (x := t) (b := b) (st := st) ⟨by omega, (by rw [if_pos (by omega)]; omega), (nodeP_iff t).2 ⟨by omega, by omega, hba.zr, hba.zg, hba.zm1, hba.zm2, hba.zl, hba.zc, hba.zn, fun k => by omega, fun k => by omega, fun k => by omega, fun k => by omega, fun k => by omega, fun k => by omega, fun k => by omega, fun k => by omega, fun k => by omega, hba.zk⟩, fun _ => ⟨by omega, by omega, hgb2⟩⟩
                    refine ⟨by simp only; omega, by simp only; rw [if_pos (by omega)], ?_, ?_, hg9, hB58, nmem2 hA5.symm hAq5⟩
                    · rw [hfin0, if_pos (by omega), if_pos (by omega), hz]
                    · exact ⟨by simpa [List.length_append] using hJ2.blk, hJ2.own, hJ2.ne⟩
              ·skip
               refine cw_skip (nrm_block (nrm_same ?_))
               refine ⟨(z, (st.1 + 1, st.2), a, c, ob), ⟨rfl, trivial⟩, ⟨rfl, rfl, trivial⟩, hE32, ?_⟩
               have hfin0 := fine_yes (x := t) (b := b) (st := st) ⟨by omega, (by rw [if_neg (by omega)]; omega), (nodeP_iff t).2 ⟨by omega, by omega, hba.zr, hba.zg, hba.zm1, hba.zm2, hba.zl, hba.zc, hba.zn, fun k => by omega, fun k => by omega, fun k => by omega, fun k => by omega, fun k => by omega, fun k => by omega, fun k => by omega, fun k => by omega, fun k => by omega, hba.zk⟩, fun h => by omega⟩
               refine ⟨by simp only; omega, by simp only; rw [if_neg (by omega)], ?_, ?_, fun g hg => .inl (by have h9 : ob = some g := hg; simp [h9]), hB35, nmem2 hA5.symm hA6.symm⟩
               · rw [hfin0, if_neg (by omega), if_neg (by omega), hz]
               · exact ⟨by simpa [List.length_append] using hB33, hO34, hne⟩
           ·skip
            refine cw_region ?_
            refine wl_val rfl (ex_eql rfl rfl) ?_
            refine wl_a ?_
            refine wl_nil (nrm_then ?_)
            refine cw_if rfl (fun hc65 => ?_) (fun hc65 => ?_)
            ·skip
             refine cw_seq ?_
             refine cw_region ?_
             refine wl_val rfl (ex_fieldAddr rfl Try.fld25_8) ?_
             refine wl_val rfl (ex_load1 rfl Try.agg23 (cell_nth hB35 rfl)) ?_
             refine wl_val rfl (ex_len_slice rfl Try.underlying23 rfl) ?_
             refine wl_val rfl (ex_lss rfl rfl) ?_
             refine wl_nil (nrm_then ?_)
             refine cw_if rfl (fun hc71 => ?_) (fun hc71 => ?_)
             ·skip
              refine cw_seq ?_
              refine cw_region ?_
              refine wl_a ?_
              refine wl_nil (nrm_then ?_)
              refine cw_ret (ret_block (ret_then (ret_then (body_ret1 rfl rfl ?_))))
              have hno := fine_no (x := t) (b := b) (st := st) (fun h => by obtain ⟨h1, h2, h3, h4⟩ := h; have hf := (nodeP_iff t).1 h3; (have := hf.two; omega))
              exact ⟨false, rfl, by rw [hno]; rfl, hE32, fun st' h => by rw [hno] at h; cases h⟩
             ·skip
              refine cw_skip (nrm_block (nrm_same ?_))
              refine ⟨(z, (st.1 + 1, st.2), a, c, ob), ⟨rfl, trivial⟩, ⟨rfl, rfl, trivial⟩, hE32, ?_⟩
              have hfin0 := fine_yes (x := t) (b := b) (st := st) ⟨by omega, (by rw [if_neg (by omega)]; omega), (nodeP_iff t).2 ⟨by omega, by omega, hba.zr, hba.zg, hba.zm1, hba.zm2, hba.zl, hba.zc, hba.zn, fun k => by omega, fun k => by omega, fun k => by omega, fun k => by omega, fun k => by omega, fun k => by omega, fun k => by omega, fun k => by omega, fun k => by omega, hba.zk⟩, fun h => by omega⟩
              refine ⟨by simp only; omega, by simp only; rw [if_neg (by omega)], ?_, ?_, fun g hg => .inl (by have h9 : ob = some g := hg; simp [h9]), hB35, nmem2 hA5.symm hA6.symm⟩
              · rw [hfin0, if_neg (by omega), if_neg (by omega), hz]
              · exact ⟨by simpa [List.length_append] using hB33, hO34, hne⟩
            ·skip
             refine cw_seq ?_
             refine cw_region ?_
             refine wl_val rfl (ex_eql rfl rfl) ?_
             refine wl_a ?_
             refine wl_nil (nrm_then ?_)
             refine cw_if rfl (fun hc72 => ?_) (fun hc72 => ?_)
             ·skip
              refine cw_seq ?_
              refine cw_region ?_
              refine wl_val rfl (ex_fieldAddr rfl Try.fld25_8) ?_
              refine wl_val rfl (ex_load1 rfl Try.agg23 (cell_nth hB35 rfl)) ?_
              refine wl_val rfl (ex_len_slice rfl Try.underlying23 rfl) ?_
              refine wl_val rfl (ex_neq rfl rfl) ?_
              refine wl_m ?_
              refine wl_split (t := 78) rfl (fun hs78 => ?_) (fun hs78 => ?_)
              ·skip
               refine wl_n ?_
               refine wl_n ?_
               refine wl_n ?_
               refine wl_pt ?_
               refine wl_m ?_
               refine wl_n ?_
               refine wl_n ?_
               refine wl_n ?_
               refine wl_pt ?_
               refine wl_m ?_
               refine wl_n ?_
               refine wl_n ?_
               refine wl_n ?_
               refine wl_pt ?_
               refine wl_m ?_
               refine wl_n ?_
               refine wl_n ?_
               refine wl_n ?_
               refine wl_pt ?_
               refine wl_m ?_
               refine wl_n ?_
               refine wl_n ?_
               refine wl_n ?_
               refine wl_n ?_
               refine wl_u ?_
               refine wl_u ?_
               refine wl_u ?_
               refine wl_u ?_
               refine wl_u ?_
               refine wl_n ?_
               refine wl_pt ?_
               refine wl_nil (nrm_then ?_)
               refine cw_true rfl ?_
               refine cw_seq ?_
               refine cw_region ?_
               refine wl_a ?_
               refine wl_nil (nrm_then ?_)
               refine cw_ret (ret_block (ret_then (ret_then (body_ret1 rfl rfl ?_))))
               have hno := fine_no (x := t) (b := b) (st := st) (fun h => by obtain ⟨h1, h2, h3, h4⟩ := h; have hf := (nodeP_iff t).1 h3; (have f1 := hf.rep1; have f2 := hf.rep2; have f3 := hf.rep3; have f4 := hf.rep4; omega))
               exact ⟨false, rfl, by rw [hno]; rfl, hE32, fun st' h => by rw [hno] at h; cases h⟩
              ·skip
               refine wl_g ?_
               refine wl_val rfl (ex_fieldAddr rfl Try.fld25_3) ?_
               refine wl_g ?_
               refine wl_val rfl (ex_load1 rfl Try.agg3 (cell_nth hB35 rfl)) ?_
               refine wl_g ?_
               refine wl_val rfl (ex_lss rfl rfl) ?_
               refine wl_pf ?_
               refine wl_m ?_
               refine wl_split (t := 83) rfl (fun hs83 => ?_) (fun hs83 => ?_)
               ·skip
                refine wl_n ?_
                refine wl_n ?_
                refine wl_n ?_
                refine wl_pt ?_
                refine wl_m ?_
                refine wl_n ?_
                refine wl_n ?_
                refine wl_n ?_
                refine wl_pt ?_
                refine wl_m ?_
                refine wl_n ?_
                refine wl_n ?_
                refine wl_n ?_
                refine wl_pt ?_
                refine wl_m ?_
                refine wl_n ?_
                refine wl_n ?_
                refine wl_n ?_
                refine wl_n ?_
                refine wl_u ?_
                refine wl_u ?_
                refine wl_u ?_
                refine wl_u ?_
                refine wl_u ?_
                refine wl_n ?_
                refine wl_pt ?_
                refine wl_nil (nrm_then ?_)
                refine cw_true rfl ?_
                refine cw_seq ?_
                refine cw_region ?_
                refine wl_a ?_
                refine wl_nil (nrm_then ?_)
                refine cw_ret (ret_block (ret_then (ret_then (body_ret1 rfl rfl ?_))))
                have hno := fine_no (x := t) (b := b) (st := st) (fun h => by obtain ⟨h1, h2, h3, h4⟩ := h; have hf := (nodeP_iff t).1 h3; (have f1 := hf.rep1; have f2 := hf.rep2; have f3 := hf.rep3; have f4 := hf.rep4; omega))
                exact ⟨false, rfl, by rw [hno]; rfl, hE32, fun st' h => by rw [hno] at h; cases h⟩
               ·skip
                refine wl_g ?_
                refine wl_val rfl (ex_fieldAddr rfl Try.fld25_3) ?_
                refine wl_g ?_
                refine wl_val rfl (ex_load1 rfl Try.agg3 (cell_nth hB35 rfl)) ?_
                refine wl_g ?_
                refine wl_val rfl (ex_gtr rfl rfl) ?_
                refine wl_pf ?_
                refine wl_m ?_
                refine wl_split (t := 88) rfl (fun hs88 => ?_) (fun hs88 => ?_)
                ·skip
                 refine wl_n ?_
                 refine wl_n ?_
                 refine wl_n ?_
                 refine wl_pt ?_
                 refine wl_m ?_
                 refine wl_n ?_
                 refine wl_n ?_
                 refine wl_n ?_
                 refine wl_pt ?_
                 refine wl_m ?_
                 refine wl_n ?_
                 refine wl_n ?_
                 refine wl_n ?_
                 refine wl_n ?_
                 refine wl_u ?_
                 refine wl_u ?_
                 refine wl_u ?_
                 refine wl_u ?_
                 refine wl_u ?_
                 refine wl_n ?_
                 refine wl_pt ?_
                 refine wl_nil (nrm_then ?_)
                 refine cw_true rfl ?_
                 refine cw_seq ?_
                 refine cw_region ?_
                 refine wl_a ?_
                 refine wl_nil (nrm_then ?_)
                 refine cw_ret (ret_block (ret_then (ret_then (body_ret1 rfl rfl ?_))))
                 have hno := fine_no (x := t) (b := b) (st := st) (fun h => by obtain ⟨h1, h2, h3, h4⟩ := h; have hf := (nodeP_iff t).1 h3; (have f1 := hf.rep1; have f2 := hf.rep2; have f3 := hf.rep3; have f4 := hf.rep4; omega))
                 exact ⟨false, rfl, by rw [hno]; rfl, hE32, fun st' h => by rw [hno] at h; cases h⟩
                ·skip
                 refine wl_g ?_
                 refine wl_val rfl (ex_fieldAddr rfl Try.fld25_4) ?_
                 refine wl_g ?_
                 refine wl_val rfl (ex_load1 rfl Try.agg3 (cell_nth hB35 rfl)) ?_
                 refine wl_g ?_
                 refine wl_val rfl (ex_lss rfl rfl) ?_
                 refine wl_pf ?_
                 refine wl_m ?_
                 refine wl_split (t := 93) rfl (fun hs93 => ?_) (fun hs93 => ?_)
                 ·skip
                  refine wl_n ?_
                  refine wl_n ?_
                  refine wl_n ?_
                  refine wl_pt ?_
                  refine wl_m ?_
                  refine wl_n ?_
                  refine wl_n ?_
                  refine wl_n ?_
                  refine wl_n ?_
                  refine wl_u ?_
                  refine wl_u ?_
                  refine wl_u ?_
                  refine wl_u ?_
                  refine wl_u ?_
                  refine wl_n ?_
                  refine wl_pt ?_
                  refine wl_nil (nrm_then ?_)
                  refine cw_true rfl ?_
                  refine cw_seq ?_
                  refine cw_region ?_
                  refine wl_a ?_
                  refine wl_nil (nrm_then ?_)
                  refine cw_ret (ret_block (ret_then (ret_then (body_ret1 rfl rfl ?_))))
                  have hno := fine_no (x := t) (b := b) (st := st) (fun h => by obtain ⟨h1, h2, h3, h4⟩ := h; have hf := (nodeP_iff t).1 h3; (have f1 := hf.rep1; have f2 := hf.rep2; have f3 := hf.rep3; have f4 := hf.rep4; omega))
                  exact ⟨false, rfl, by rw [hno]; rfl, hE32, fun st' h => by rw [hno] at h; cases h⟩
                 ·skip
                  refine wl_g ?_
                  refine wl_val rfl (ex_fieldAddr rfl Try.fld25_4) ?_
                  refine wl_g ?_
                  refine wl_val rfl (ex_load1 rfl Try.agg3 (cell_nth hB35 rfl)) ?_
                  refine wl_g ?_
                  refine wl_val rfl (ex_gtr rfl rfl) ?_
                  refine wl_pf ?_
                  refine wl_m ?_
                  refine wl_split (t := 98) rfl (fun hs98 => ?_) (fun hs98 => ?_)
                  ·skip
                   refine wl_n ?_
                   refine wl_n ?_
                   refine wl_n ?_
                   refine wl_n ?_
                   refine wl_u ?_
                   refine wl_u ?_
                   refine wl_u ?_
                   refine wl_u ?_
                   refine wl_u ?_
                   refine wl_n ?_
                   refine wl_pt ?_
                   refine wl_nil (nrm_then ?_)
                   refine cw_true rfl ?_
                   refine cw_seq ?_
                   refine cw_region ?_
                   refine wl_a ?_
                   refine wl_nil (nrm_then ?_)
                   refine cw_ret (ret_block (ret_then (ret_then (body_ret1 rfl rfl ?_))))
                   have hno := fine_no (x := t) (b := b) (st := st) (fun h => by obtain ⟨h1, h2, h3, h4⟩ := h; have hf := (nodeP_iff t).1 h3; (have f1 := hf.rep1; have f2 := hf.rep2; have f3 := hf.rep3; have f4 := hf.rep4; omega))
                   exact ⟨false, rfl, by rw [hno]; rfl, hE32, fun st' h => by rw [hno] at h; cases h⟩
                  ·skip
                   refine wl_g ?_
                   refine wl_val rfl (ex_fieldAddr rfl Try.fld25_4) ?_
                   refine wl_g ?_
                   refine wl_val rfl (ex_load1 rfl Try.agg3 (cell_nth hB35 rfl)) ?_
                   refine wl_g ?_
                   refine wl_val rfl (ex_geq rfl rfl) ?_
                   refine wl_g ?_
                   refine wl_m ?_
                   refine wl_split (t := 102) rfl (fun hs102 => ?_) (fun hs102 => ?_)
                   ·skip
                    refine wl_g ?_
                    refine wl_val rfl (ex_fieldAddr rfl Try.fld25_4) ?_
                    refine wl_g ?_
                    refine wl_val rfl (ex_load1 rfl Try.agg3 (cell_nth hB35 rfl)) ?_
                    refine wl_g ?_
                    refine wl_val rfl (ex_fieldAddr rfl Try.fld25_3) ?_
                    refine wl_g ?_
                    refine wl_val rfl (ex_load1 rfl Try.agg3 (cell_nth hB35 rfl)) ?_
                    refine wl_g ?_
                    refine wl_val rfl (ex_lss rfl rfl) ?_
                    refine wl_g ?_
                    refine wl_pt ?_
                    refine wl_pf ?_
                    refine wl_nil (nrm_then ?_)
                    refine cw_if rfl (fun hc109 => ?_) (fun hc109 => ?_)
                    ·skip
                     refine cw_seq ?_
                     refine cw_region ?_
                     refine wl_a ?_
                     refine wl_nil (nrm_then ?_)
                     refine cw_ret (ret_block (ret_then (ret_then (body_ret1 rfl rfl ?_))))
                     have hno := fine_no (x := t) (b := b) (st := st) (fun h => by obtain ⟨h1, h2, h3, h4⟩ := h; have hf := (nodeP_iff t).1 h3; (have f1 := hf.rep1; have f2 := hf.rep2; have f3 := hf.rep3; have f4 := hf.rep4; omega))
                     exact ⟨false, rfl, by rw [hno]; rfl, hE32, fun st' h => by rw [hno] at h; cases h⟩
                    ·skip
                     refine cw_skip (nrm_block (nrm_same ?_))
                     refine ⟨(z, (st.1 + 1, st.2), a, c, ob), ⟨rfl, trivial⟩, ⟨rfl, rfl, trivial⟩, hE32, ?_⟩
                     have hfin0 := fine_yes (x := t) (b := b) (st := st) ⟨by omega, (by rw [if_neg (by omega)]; omega), (nodeP_iff t).2 ⟨by omega, by omega, hba.zr, hba.zg, hba.zm1, hba.zm2, hba.zl, hba.zc, hba.zn, fun k => by omega, fun k => by omega, fun k => by omega, fun k => by omega, fun k => by omega, fun k => by omega, fun k => by omega, fun k => by omega, fun k => by omega, hba.zk⟩, fun h => by omega⟩
                     refine ⟨by simp only; omega, by simp only; rw [if_neg (by omega)], ?_, ?_, fun g hg => .inl (by have h9 : ob = some g := hg; simp [h9]), hB35, nmem2 hA5.symm hA6.symm⟩
                     · rw [hfin0, if_neg (by omega), if_neg (by omega), hz]
                     · exact ⟨by simpa [List.length_append] using hB33, hO34, hne⟩
                   ·skip
                    refine wl_n ?_
                    refine wl_n ?_
                    refine wl_n ?_
                    refine wl_n ?_
                    refine wl_n ?_
                    refine wl_g ?_
                    refine wl_pf ?_
                    refine wl_pf ?_
                    refine wl_nil (nrm_then ?_)
                    refine cw_false rfl ?_
                    refine cw_skip (nrm_block (nrm_same ?_))
                    refine ⟨(z, (st.1 + 1, st.2), a, c, ob), ⟨rfl, trivial⟩, ⟨rfl, rfl, trivial⟩, hE32, ?_⟩
                    have hfin0 := fine_yes (x := t) (b := b) (st := st) ⟨by omega, (by rw [if_neg (by omega)]; omega), (nodeP_iff t).2 ⟨by omega, by omega, hba.zr, hba.zg, hba.zm1, hba.zm2, hba.zl, hba.zc, hba.zn, fun k => by omega, fun k => by omega, fun k => by omega, fun k => by omega, fun k => by omega, fun k => by omega, fun k => by omega, fun k => by omega, fun k => by omega, hba.zk⟩, fun h => by omega⟩
                    refine ⟨by simp only; omega, by simp only; rw [if_neg (by omega)], ?_, ?_, fun g hg => .inl (by have h9 : ob = some g := hg; simp [h9]), hB35, nmem2 hA5.symm hA6.symm⟩
                    · rw [hfin0, if_neg (by omega), if_neg (by omega), hz]
                    · exact ⟨by simpa [List.length_append] using hB33, hO34, hne⟩
             ·skip
              refine cw_seq ?_
              refine cw_region ?_
              refine wl_val rfl (ex_eql rfl rfl) ?_
              refine wl_a ?_
              refine wl_nil (nrm_then ?_)
              refine cw_if rfl (fun hc110 => ?_) (fun hc110 => ?_)
              ·skip
               refine cw_seq ?_
               refine cw_region ?_
               refine wl_m ?_
               refine wl_val rfl (ex_nilCheck rfl) ?_
               refine wl_val rfl (ex_fieldAddr rfl Try.fld56_1) ?_
               refine wl_val rfl (ex_load1 rfl Try.agg3 (cell_nth hB33 rfl)) ?_
               refine wl_val rfl (ex_add_i64 rfl rfl (by omega) (by omega)) ?_
               refine wl_val rfl (ex_nilCheck rfl) ?_
               refine wl_val rfl (ex_fieldAddr rfl Try.fld56_1) ?_
               refine wl_store1 rfl rfl (by first | rfl | assumption) Try.size3 hB33 rfl fun w59 hB60 hw61 => ?_
               have hE62 := hE32.step hw61 (fun y hy => .inl (by rw [List.mem_singleton.1 hy]; exact List.mem_cons_self ..))
               have hO63 := hO34.evo hw61 hAJN.symm.own1
               have hB64 := hw61.blk hB35 hA5.symm.nmem1
               try simp only [List.setIfInBounds_toArray, List.set_cons_zero, List.set_cons_succ, Nat.reduceAdd, Nat.zero_add, Nat.add_zero] at hB60
               refine wl_nil (nrm_then ?_)
               refine cw_seq ?_
               refine cw_seq ?_
               refine cw_any (fun w0 w' => Evo (jb :: ob.toList) w0 w') (by kernel_rfl) (fun w65 hw66 => ?_)
               have hE67 := hE62.then hw66
               have hB68 := hw66.blk0 hB60
               have hO69 := hO63.evo0 hw66
               have hB70 := hw66.blk0 hB64
               refine ae_take 0 rfl (by kernel_rfl) (by kernel_rfl) (by kernel_rfl) rfl (fun _ hS => ex_fieldAddr rfl Try.fld25_8) (Evo.refl (jb :: ob.toList) w65) ?_
               refine ae_take 1 rfl (by kernel_rfl) (by kernel_rfl) (by kernel_rfl) rfl (fun _ hS => ex_load1 rfl Try.agg23 (cell_nth (hS.blk hB70 (nmem2 hA5.symm hA6.symm)) rfl)) (Evo.refl (jb :: ob.toList) w65) ?_
               refine ae_take 2 rfl (by kernel_rfl) (by kernel_rfl) (by kernel_rfl) rfl (fun _ hS => ex_len_slice rfl Try.underlying23 rfl) (Evo.refl (jb :: ob.toList) w65) ?_
               refine ae_take 3 rfl (by kernel_rfl) (by kernel_rfl) (by kernel_rfl) rfl (fun _ hS => ex_neq rfl rfl) (Evo.refl (jb :: ob.toList) w65) ?_
               refine ae_take 4 rfl (by kernel_rfl) (by kernel_rfl) (by kernel_rfl) rfl (fun _ hS => ex_move rfl) (Evo.refl (jb :: ob.toList) w65) ?_
               refine ae_split (t := 123) rfl (fun hs123 => ?_) (fun hs123 => ?_)
               ·skip
                refine ae_takeN 5 rfl rfl rfl rfl rfl rfl (by kernel_rfl) (by kernel_rfl) (by kernel_rfl) rfl (Evo.refl (jb :: ob.toList) w65) ?_
                refine ae_takeN 6 rfl rfl rfl rfl rfl rfl (by kernel_rfl) (by kernel_rfl) (by kernel_rfl) rfl (Evo.refl (jb :: ob.toList) w65) ?_
                refine ae_takeN 7 rfl rfl rfl rfl rfl rfl (by kernel_rfl) (by kernel_rfl) (by kernel_rfl) rfl (Evo.refl (jb :: ob.toList) w65) ?_
                refine ae_takeN 8 rfl rfl rfl rfl rfl rfl (by kernel_rfl) (by kernel_rfl) (by kernel_rfl) rfl (Evo.refl (jb :: ob.toList) w65) ?_
                refine ae_takeN 9 rfl rfl rfl rfl rfl rfl (by kernel_rfl) (by kernel_rfl) (by kernel_rfl) rfl (Evo.refl (jb :: ob.toList) w65) ?_
                refine ae_loud [10] (by kernel_rfl) rfl ⟨?_, trivial⟩
                refine a_step rfl ?_
                refine wl_n ?_
                refine wl_nil (ae_next (.inl (Evo.refl (jb :: ob.toList) w65)) ?_)
                refine ae_takeN 11 rfl rfl rfl rfl rfl rfl (by kernel_rfl) (by kernel_rfl) (by kernel_rfl) rfl (Evo.refl (jb :: ob.toList) w65) ?_
                refine ae_take 12 rfl (by kernel_rfl) (by kernel_rfl) (by kernel_rfl) rfl (fun _ hS => ex_pick_t rfl rfl) (Evo.refl (jb :: ob.toList) w65) ?_
                refine ae_take 13 rfl (by kernel_rfl) (by kernel_rfl) (by kernel_rfl) rfl (fun _ hS => ex_move rfl) (Evo.refl (jb :: ob.toList) w65) ?_
                refine ae_takeN 14 rfl rfl rfl rfl rfl rfl (by kernel_rfl) (by kernel_rfl) (by kernel_rfl) rfl (Evo.refl (jb :: ob.toList) w65) ?_
                refine ae_takeN 15 rfl rfl rfl rfl rfl rfl (by kernel_rfl) (by kernel_rfl) (by kernel_rfl) rfl (Evo.refl (jb :: ob.toList) w65) ?_
                refine ae_takeN 16 rfl rfl rfl rfl rfl rfl (by kernel_rfl) (by kernel_rfl) (by kernel_rfl) rfl (Evo.refl (jb :: ob.toList) w65) ?_
                refine ae_loud [17] (by kernel_rfl) rfl ⟨?_, trivial⟩
                refine a_step rfl ?_
                refine wl_n ?_
                refine wl_nil (ae_next (.inl (Evo.refl (jb :: ob.toList) w65)) ?_)
                refine ae_takeN 18 rfl rfl rfl rfl rfl rfl (by kernel_rfl) (by kernel_rfl) (by kernel_rfl) rfl (Evo.refl (jb :: ob.toList) w65) ?_
                refine ae_take 19 rfl (by kernel_rfl) (by kernel_rfl) (by kernel_rfl) rfl (fun _ hS => ex_pick_t rfl rfl) (Evo.refl (jb :: ob.toList) w65) ?_
                refine ae_take 20 rfl (by kernel_rfl) (by kernel_rfl) (by kernel_rfl) rfl (fun _ hS => ex_move rfl) (Evo.refl (jb :: ob.toList) w65) ?_
                refine ae_takeN 21 rfl rfl rfl rfl rfl rfl (by kernel_rfl) (by kernel_rfl) (by kernel_rfl) rfl (Evo.refl (jb :: ob.toList) w65) ?_
                refine ae_takeN 22 rfl rfl rfl rfl rfl rfl (by kernel_rfl) (by kernel_rfl) (by kernel_rfl) rfl (Evo.refl (jb :: ob.toList) w65) ?_
                refine ae_takeN 23 rfl rfl rfl rfl rfl rfl (by kernel_rfl) (by kernel_rfl) (by kernel_rfl) rfl (Evo.refl (jb :: ob.toList) w65) ?_
                refine ae_loud [24] (by kernel_rfl) rfl ⟨?_, trivial⟩
                refine a_step rfl ?_
                refine wl_n ?_
                refine wl_nil (ae_next (.inl (Evo.refl (jb :: ob.toList) w65)) ?_)
                refine ae_takeN 25 rfl rfl rfl rfl rfl rfl (by kernel_rfl) (by kernel_rfl) (by kernel_rfl) rfl (Evo.refl (jb :: ob.toList) w65) ?_
                refine ae_take 26 rfl (by kernel_rfl) (by kernel_rfl) (by kernel_rfl) rfl (fun _ hS => ex_pick_t rfl rfl) (Evo.refl (jb :: ob.toList) w65) ?_
                refine ae_done (by kernel_rfl) (nrm_then ?_)
                refine cw_true rfl ?_
                refine cw_seq ?_
                refine cw_region ?_
                refine wl_a ?_
                refine wl_nil (nrm_then ?_)
                refine cw_ret (ret_then (ret_block (ret_then (ret_then (body_ret1 rfl rfl ?_)))))
                have hno := fine_no (x := t) (b := b) (st := st) (fun h => by obtain ⟨h1, h2, h3, h4⟩ := h; have hf := (nodeP_iff t).1 h3; (have := hf.grp; omega))
                exact ⟨false, rfl, by rw [hno]; rfl, hE67, fun st' h => by rw [hno] at h; cases h⟩
               ·skip
                refine ae_takeG 5 rfl rfl rfl rfl rfl (by kernel_rfl) (by kernel_rfl) (by kernel_rfl) rfl (fun _ hS => ex_fieldAddr rfl Try.fld25_6) (Evo.refl (jb :: ob.toList) w65) ?_
                refine ae_takeG 6 rfl rfl rfl rfl rfl (by kernel_rfl) (by kernel_rfl) (by kernel_rfl) rfl (fun _ hS => ex_load1 rfl Try.agg3 (cell_nth (hS.blk hB70 (nmem2 hA5.symm hA6.symm)) rfl)) (Evo.refl (jb :: ob.toList) w65) ?_
                refine ae_takeG 7 rfl rfl rfl rfl rfl (by kernel_rfl) (by kernel_rfl) (by kernel_rfl) rfl (fun _ hS => ex_move rfl) (Evo.refl (jb :: ob.toList) w65) ?_
                refine ae_takeG 8 rfl rfl rfl rfl rfl (by kernel_rfl) (by kernel_rfl) (by kernel_rfl) rfl (fun _ hS => ex_nilCheck rfl) (Evo.refl (jb :: ob.toList) w65) ?_
                refine ae_takeG 9 rfl rfl rfl rfl rfl (by kernel_rfl) (by kernel_rfl) (by kernel_rfl) rfl (fun _ hS => ex_fieldAddr rfl Try.fld56_1) (Evo.refl (jb :: ob.toList) w65) ?_
                refine ae_loud [10] (by kernel_rfl) rfl ⟨?_, trivial⟩
                refine a_step rfl ?_
                refine wl_g ?_
                refine wl_val rfl (ex_load1 rfl Try.agg3 (cell_nth hB68 rfl)) ?_
                refine wl_nil (ae_next (.inl (Evo.refl (jb :: ob.toList) w65)) ?_)
                refine ae_takeG 11 rfl rfl rfl rfl rfl (by kernel_rfl) (by kernel_rfl) (by kernel_rfl) rfl (fun _ hS => ex_neq rfl rfl) (Evo.refl (jb :: ob.toList) w65) ?_
                refine ae_take 12 rfl (by kernel_rfl) (by kernel_rfl) (by kernel_rfl) rfl (fun _ hS => ex_pick_f rfl rfl) (Evo.refl (jb :: ob.toList) w65) ?_
                refine ae_take 13 rfl (by kernel_rfl) (by kernel_rfl) (by kernel_rfl) rfl (fun _ hS => ex_move rfl) (Evo.refl (jb :: ob.toList) w65) ?_
                refine ae_split (t := 132) rfl (fun hs132 => ?_) (fun hs132 => ?_)
                ·skip
                 refine ae_takeN 14 rfl rfl rfl rfl rfl rfl (by kernel_rfl) (by kernel_rfl) (by kernel_rfl) rfl (Evo.refl (jb :: ob.toList) w65) ?_
                 refine ae_takeN 15 rfl rfl rfl rfl rfl rfl (by kernel_rfl) (by kernel_rfl) (by kernel_rfl) rfl (Evo.refl (jb :: ob.toList) w65) ?_
                 refine ae_takeN 16 rfl rfl rfl rfl rfl rfl (by kernel_rfl) (by kernel_rfl) (by kernel_rfl) rfl (Evo.refl (jb :: ob.toList) w65) ?_
                 refine ae_loud [17] (by kernel_rfl) rfl ⟨?_, trivial⟩
                 refine a_step rfl ?_
                 refine wl_n ?_
                 refine wl_nil (ae_next (.inl (Evo.refl (jb :: ob.toList) w65)) ?_)
                 refine ae_takeN 18 rfl rfl rfl rfl rfl rfl (by kernel_rfl) (by kernel_rfl) (by kernel_rfl) rfl (Evo.refl (jb :: ob.toList) w65) ?_
                 refine ae_take 19 rfl (by kernel_rfl) (by kernel_rfl) (by kernel_rfl) rfl (fun _ hS => ex_pick_t rfl rfl) (Evo.refl (jb :: ob.toList) w65) ?_
                 refine ae_take 20 rfl (by kernel_rfl) (by kernel_rfl) (by kernel_rfl) rfl (fun _ hS => ex_move rfl) (Evo.refl (jb :: ob.toList) w65) ?_
                 refine ae_takeN 21 rfl rfl rfl rfl rfl rfl (by kernel_rfl) (by kernel_rfl) (by kernel_rfl) rfl (Evo.refl (jb :: ob.toList) w65) ?_
                 refine ae_takeN 22 rfl rfl rfl rfl rfl rfl (by kernel_rfl) (by kernel_rfl) (by kernel_rfl) rfl (Evo.refl (jb :: ob.toList) w65) ?_
                 refine ae_takeN 23 rfl rfl rfl rfl rfl rfl (by kernel_rfl) (by kernel_rfl) (by kernel_rfl) rfl (Evo.refl (jb :: ob.toList) w65) ?_
                 refine ae_loud [24] (by kernel_rfl) rfl ⟨?_, trivial⟩
                 refine a_step rfl ?_
                 refine wl_n ?_
                 refine wl_nil (ae_next (.inl (Evo.refl (jb :: ob.toList) w65)) ?_)
                 refine ae_takeN 25 rfl rfl rfl rfl rfl rfl (by kernel_rfl) (by kernel_rfl) (by kernel_rfl) rfl (Evo.refl (jb :: ob.toList) w65) ?_
                 refine ae_take 26 rfl (by kernel_rfl) (by kernel_rfl) (by kernel_rfl) rfl (fun _ hS => ex_pick_t rfl rfl) (Evo.refl (jb :: ob.toList) w65) ?_
                 refine ae_done (by kernel_rfl) (nrm_then ?_)
                 refine cw_true rfl ?_
                 refine cw_seq ?_
                 refine cw_region ?_
                 refine wl_a ?_
                 refine wl_nil (nrm_then ?_)
                 refine cw_ret (ret_then (ret_block (ret_then (ret_then (body_ret1 rfl rfl ?_)))))
                 have hno := fine_no (x := t) (b := b) (st := st) (fun h => by obtain ⟨h1, h2, h3, h4⟩ := h; have hf := (nodeP_iff t).1 h3; (have := (h4 (by omega)).1; omega))
                 exact ⟨false, rfl, by rw [hno]; rfl, hE67, fun st' h => by rw [hno] at h; cases h⟩
                ·skip
                 refine ae_takeG 14 rfl rfl rfl rfl rfl (by kernel_rfl) (by kernel_rfl) (by kernel_rfl) rfl (fun _ hS => ex_move rfl) (Evo.refl (jb :: ob.toList) w65) ?_
                 refine ae_takeG 15 rfl rfl rfl rfl rfl (by kernel_rfl) (by kernel_rfl) (by kernel_rfl) rfl (fun _ hS => ex_nilCheck rfl) (Evo.refl (jb :: ob.toList) w65) ?_
                 refine ae_takeG 16 rfl rfl rfl rfl rfl (by kernel_rfl) (by kernel_rfl) (by kernel_rfl) rfl (fun _ hS => ex_fieldAddr rfl Try.fld56_1) (Evo.refl (jb :: ob.toList) w65) ?_
                 refine ae_loud [17] (by kernel_rfl) rfl ⟨?_, trivial⟩
                 refine a_step rfl ?_
                 refine wl_g ?_
                 refine wl_val rfl (ex_load1 rfl Try.agg3 (cell_nth hB68 rfl)) ?_
                 refine wl_nil (ae_next (.inl (Evo.refl (jb :: ob.toList) w65)) ?_)
                 refine ae_takeG 18 rfl rfl rfl rfl rfl (by kernel_rfl) (by kernel_rfl) (by kernel_rfl) rfl (fun _ hS => ex_gtr rfl rfl) (Evo.refl (jb :: ob.toList) w65) ?_
                 refine ae_take 19 rfl (by kernel_rfl) (by kernel_rfl) (by kernel_rfl) rfl (fun _ hS => ex_pick_f rfl rfl) (Evo.refl (jb :: ob.toList) w65) ?_
                 refine ae_take 20 rfl (by kernel_rfl) (by kernel_rfl) (by kernel_rfl) rfl (fun _ hS => ex_move rfl) (Evo.refl (jb :: ob.toList) w65) ?_
                 refine ae_split (t := 139) rfl (fun hs139 => ?_) (fun hs139 => ?_)
                 ·skip
                  refine ae_takeN 21 rfl rfl rfl rfl rfl rfl (by kernel_rfl) (by kernel_rfl) (by kernel_rfl) rfl (Evo.refl (jb :: ob.toList) w65) ?_
                  refine ae_takeN 22 rfl rfl rfl rfl rfl rfl (by kernel_rfl) (by kernel_rfl) (by kernel_rfl) rfl (Evo.refl (jb :: ob.toList) w65) ?_
                  refine ae_takeN 23 rfl rfl rfl rfl rfl rfl (by kernel_rfl) (by kernel_rfl) (by kernel_rfl) rfl (Evo.refl (jb :: ob.toList) w65) ?_
                  refine ae_loud [24] (by kernel_rfl) rfl ⟨?_, trivial⟩
                  refine a_step rfl ?_
                  refine wl_n ?_
                  refine wl_nil (ae_next (.inl (Evo.refl (jb :: ob.toList) w65)) ?_)
                  refine ae_takeN 25 rfl rfl rfl rfl rfl rfl (by kernel_rfl) (by kernel_rfl) (by kernel_rfl) rfl (Evo.refl (jb :: ob.toList) w65) ?_
                  refine ae_take 26 rfl (by kernel_rfl) (by kernel_rfl) (by kernel_rfl) rfl (fun _ hS => ex_pick_t rfl rfl) (Evo.refl (jb :: ob.toList) w65) ?_
                  refine ae_done (by kernel_rfl) (nrm_then ?_)
                  refine cw_true rfl ?_
                  refine cw_seq ?_
                  refine cw_region ?_
                  refine wl_a ?_
                  refine wl_nil (nrm_then ?_)
                  refine cw_ret (ret_then (ret_block (ret_then (ret_then (body_ret1 rfl rfl ?_)))))
                  have hno := fine_no (x := t) (b := b) (st := st) (fun h => by obtain ⟨h1, h2, h3, h4⟩ := h; have hf := (nodeP_iff t).1 h3; (have := (h4 (by omega)).1; have := (h4 (by omega)).2.1; omega))
                  exact ⟨false, rfl, by rw [hno]; rfl, hE67, fun st' h => by rw [hno] at h; cases h⟩
                 ·skip
                  refine ae_takeG 21 rfl rfl rfl rfl rfl (by kernel_rfl) (by kernel_rfl) (by kernel_rfl) rfl (fun _ hS => ex_move rfl) (Evo.refl (jb :: ob.toList) w65) ?_
                  have hszc := (hE67).size
                  have hlt5 := Lt.blk hB70
                  refine ae_takeG 22 rfl rfl rfl rfl rfl (by kernel_rfl) (by kernel_rfl) (by kernel_rfl) rfl (fun _ hS => ex_fieldAddr rfl Try.fld25_7) (Evo.refl (jb :: ob.toList) w65) ?_
                  refine ae_takeG 23 rfl rfl rfl rfl rfl (by kernel_rfl) (by kernel_rfl) (by kernel_rfl) rfl (fun _ hS => ex_load1 rfl Try.agg9 (cell_nth (hS.blk hB70 (nmem2 hA5.symm hA6.symm)) rfl)) (Evo.refl (jb :: ob.toList) w65) ?_
                  refine ae_loud [24] (by kernel_rfl) rfl ⟨?_, trivial⟩
                  refine a_step rfl ?_
                  refine wl_g ?_
                  refine wl_call1 (vs := [_, _]) Try.goes40 rfl (name_ok ⟨hB68, hO69, hne⟩ (by omega) bl2) rfl ?_
                  rintro _ w71 ⟨gb, rfl, hgb, hw72, hgs⟩
                  have hE73 := hE67.step hw72 (fun y hy => .inl hy)
                  have hE74 := (Evo.refl (jb :: ob.toList) w65).step hw72 (fun y hy => .inl hy)
                  have hB75 := hw72.blk hB70 (nmem2 hA5.symm hA6.symm)
                  refine wl_nil (ae_next (.inl hE74) ?_)
                  refine ae_takeG 25 rfl rfl rfl rfl rfl (by kernel_rfl) (by kernel_rfl) (by kernel_rfl) rfl (fun _ hS => ex_notb rfl) hE74 ?_
                  refine ae_take 26 rfl (by kernel_rfl) (by kernel_rfl) (by kernel_rfl) rfl (fun _ hS => ex_pick_f rfl rfl) hE74 ?_
                  refine ae_done (by kernel_rfl) (nrm_then ?_)
                  refine cw_ifb rfl (fun hc145 => ?_) (fun hc145 => ?_)
                  ·skip
                   refine cw_seq ?_
                   refine cw_region ?_
                   refine wl_a ?_
                   refine wl_nil (nrm_then ?_)
                   refine cw_ret (ret_then (ret_block (ret_then (ret_then (body_ret1 rfl rfl ?_)))))
                   have hno := fine_no (x := t) (b := b) (st := st) (fun h => by obtain ⟨h1, h2, h3, h4⟩ := h; have hf := (nodeP_iff t).1 h3; (have := hgb.2 (h4 (by omega)).2.2; rw [this] at hc145; cases hc145))
                   exact ⟨false, rfl, by rw [hno]; rfl, hE73, fun st' h => by rw [hno] at h; cases h⟩
                  ·skip
                   obtain ⟨a2, c2, ob2, hJ2, hob2⟩ := hgs (by simpa using hc145)
                   have hgb2 := hgb.1 (by simpa using hc145)
                   have hAq5 := ap_ob hA6.symm hlt5 hob2
                   have hg9 : ∀ g, ob2 = some g → g ∈ ob.toList ∨ w.heap.size ≤ g := fun g hg => by rcases hob2 with h | ⟨g', h1, h2⟩; left; rw [← h, hg]; simp; right; rw [hg] at h1; cases h1; exact Nat.le_trans hszc h2
                   refine cw_skip (nrm_then ?_)
                   refine cw_seq ?_
                   refine cw_region ?_
                   refine wl_m ?_
                   refine wl_val rfl (ex_add_i64 rfl rfl (by omega) (by omega)) ?_
                   refine wl_a ?_
                   refine wl_nil (nrm_then ?_)
                   refine cw_seq ?_
                   refine cw_region ?_
                   refine wl_m ?_
                   refine wl_val rfl (ex_gtr rfl rfl) ?_
                   refine wl_nil (nrm_then ?_)
                   refine cw_if rfl (fun hc149 => ?_) (fun hc149 => ?_)
                   ·skip
                    refine cw_seq ?_
                    refine cw_region ?_
                    refine wl_a ?_
                    refine wl_nil (nrm_then ?_)
                    refine cw_ret (ret_block (ret_then (ret_then (body_ret1 rfl rfl ?_))))
                    have hno := fine_no (x := t) (b := b) (st := st) (fun h => by obtain ⟨h1, h2, h3, h4⟩ := h; have hf := (nodeP_iff t).1 h3; (rw [if_pos (by omega)] at h2; omega))
                    exact ⟨false, rfl, by rw [hno]; rfl, hE73, fun st' h => by rw [hno] at h; cases h⟩
                   ·skip
                    refine cw_skip (nrm_block (nrm_same ?_))
                    refine ⟨(z + 1, (st.1 + 1, st.2 ++ [t.name]), a2, c2, ob2), ⟨rfl, trivial⟩, ⟨rfl, rfl, trivial⟩, hE73, ?_⟩
                    have hfin0 := fine_yes (x := t) (b := b) (st := st) ⟨by omega, (by rw [if_pos (by omega)]; omega), (nodeP_iff t).2 ⟨by omega, by omega, hba.zr, hba.zg, hba.zm1, hba.zm2, hba.zl, hba.zc, hba.zn, fun k => by omega, fun k => by omega, fun k => by omega, fun k => by omega, fun k => by omega, fun k => by omega, fun k => by omega, fun k => by omega, fun k => by omega, hba.zk⟩, fun _ => ⟨by omega, by omega, hgb2⟩⟩
                    refine ⟨by simp only; omega, by simp only; rw [if_pos (by omega)], ?_, ?_, hg9, hB75, nmem2 hA5.symm hAq5⟩
                    · rw [hfin0, if_pos (by omega), if_pos (by omega), hz]
                    · exact ⟨by simpa [List.length_append] using hJ2.blk, hJ2.own, hJ2.ne⟩
              ·skip
               refine cw_skip (nrm_block (nrm_same ?_))
               refine ⟨(z, (st.1 + 1, st.2), a, c, ob), ⟨rfl, trivial⟩, ⟨rfl, rfl, trivial⟩, hE32, ?_⟩
               have hfin0 := fine_yes (x := t) (b := b) (st := st) ⟨by omega, (by rw [if_neg (by omega)]; omega), (nodeP_iff t).2 ⟨by omega, by omega, hba.zr, hba.zg, hba.zm1, hba.zm2, hba.zl, hba.zc, hba.zn, fun k => by omega, fun k => by omega, fun k => by omega, fun k => by omega, fun k => by omega, fun k => by omega, fun k => by omega, fun k => by omega, fun k => by omega, hba.zk⟩, fun h => by omega⟩
               refine ⟨by simp only; omega, by simp only; rw [if_neg (by omega)], ?_, ?_, fun g hg => .inl (by have h9 : ob = some g := hg; simp [h9]), hB35, nmem2 hA5.symm hA6.symm⟩
               · rw [hfin0, if_neg (by omega), if_neg (by omega), hz]
               · exact ⟨by simpa [List.length_append] using hB33, hO34, hne⟩
        ·skip
         rintro ⟨z2, s0, a', c', o'⟩ w76 ⟨hV77, ⟨hz2, hs0, hfin0, ⟨hB', hO', hne'⟩, hgo, hB5, hb5o⟩⟩
         refine nrm_then ?_
         show CW _ _ _ _ [(3, .int .i64 z2), (0, _), (5, _)] _
         try dsimp only at hz2
         try dsimp only at hs0
         try dsimp only at hfin0
         try dsimp only at hB'
         try dsimp only at hO'
         try dsimp only at hne'
         try dsimp only at hgo
         try dsimp only at hB5
         try dsimp only at hb5o
         have hAJN' : Apart (some jb) o' := fun g h1 h2 => by cases h1; exact hne' jb h2 rfl
         have hA5J : Apart (some b5) (some jb) := fun g h1 h2 => by cases h1; cases h2; exact hb5o (by simp)
         have hA5N : Apart (some b5) o' := fun g h1 h2 => by cases h1; exact hb5o (by simp [h2])
         have hyo : ∀ y, y ∈ jb :: o'.toList → y ∈ jb :: ob.toList ∨ w.heap.size ≤ y := fun y hy => by rcases List.mem_cons.1 hy with h | h; left; rw [h]; simp; rcases hgo y (by simpa using h) with h1 | h1; left; exact List.mem_cons_of_mem _ h1; exact .inr h1
         have hsok0 : StOk s0 := by rw [hs0]; exact ⟨by show (if t.kind = 7 then st.2 ++ [t.name] else st.2).length ≤ st.1 + 1; split; (rw [List.length_append]; simp; omega); omega, by show st.1 + 1 ≤ 8194; omega⟩
         refine cw_seq ?_
         refine cw_seq ?_
         refine cw_region ?_
         refine wl_a ?_
         refine wl_nil (nrm_then ?_)
         refine cw_block ?_
         refine cw_loop (α := Nat × St × Option Addr × Nat × Option Nat) ((0, s0, a', c', o')) (fun x => [(9, .int .i64 (x.1 : Nat))]) [(0, _), (3, _), (5, _)] (fun x wr => Evo (jb :: ob.toList) w wr ∧ (x.1 ≤ t.kids.length ∧ StOk x.2.1 ∧ t.fine b st = fineKids (t.kids.drop x.1) t.kind z2 x.2.1 ∧ CAt wr jb x.2.1.1 x.2.1.2.length x.2.1.2 x.2.2.1 x.2.2.2.1 x.2.2.2.2 ∧ (∀ g, x.2.2.2.2 = some g → g ∈ ob.toList ∨ w.heap.size ≤ g) ∧ wr.heap[b5]? = some (.cells #[iv t.kind, .int .i32 t.r, .slice ra t.ranges.length rc, iv t.min, iv t.max, .bool t.lazy, iv t.cap, .string t.name, .slice ka t.kids.length kc] 25 (0, 0)) ∧ b5 ∉ jb :: x.2.2.2.2.toList)) (fun x => t.kids.length - x.1) ⟨rfl, trivial⟩ ⟨rfl, rfl, rfl, trivial⟩ ⟨hV77, ⟨Nat.zero_le _, hsok0, hfin0, ⟨hB', hO', hne'⟩, hgo, hB5, hb5o⟩⟩ ?_
         rintro ⟨j, s, a', c', o'⟩ wr78 ⟨hV79, ⟨hj, hsok, hfin, ⟨hB', hO', hne'⟩, hgo, hB5, hb5o⟩⟩
         show CW _ _ _ _ [(9, .int .i64 (j : Nat)), (0, _), (3, _), (5, _)] _
         try dsimp only at hj
         try dsimp only at hsok
         try dsimp only at hfin
         try dsimp only at hB'
         try dsimp only at hO'
         try dsimp only at hne'
         try dsimp only at hgo
         try dsimp only at hB5
         try dsimp only at hb5o
         have hAJN' : Apart (some jb) o' := fun g h1 h2 => by cases h1; exact hne' jb h2 rfl
         have hA5J : Apart (some b5) (some jb) := fun g h1 h2 => by cases h1; cases h2; exact hb5o (by simp)
         have hA5N : Apart (some b5) o' := fun g h1 h2 => by cases h1; exact hb5o (by simp [h2])
         have hyo : ∀ y, y ∈ jb :: o'.toList → y ∈ jb :: ob.toList ∨ w.heap.size ≤ y := fun y hy => by rcases List.mem_cons.1 hy with h | h; left; rw [h]; simp; rcases hgo y (by simpa using h) with h1 | h1; left; exact List.mem_cons_of_mem _ h1; exact .inr h1
         refine cw_seq ?_
         refine cw_seq ?_
         refine cw_region ?_
         refine wl_m ?_
         refine wl_val rfl (ex_fieldAddr rfl Try.fld25_8) ?_
         refine wl_val rfl (ex_load1 rfl Try.agg23 (cell_nth hB5 rfl)) ?_
         refine wl_val rfl (ex_len_slice rfl Try.underlying23 rfl) ?_
         refine wl_val rfl (ex_lss rfl rfl) ?_
         refine wl_nil (nrm_then ?_)
         refine cw_if rfl (fun hc154 => ?_) (fun hc154 => ?_)
         ·skip
          have hj' : j < t.kids.length := by omega
          obtain ⟨b1, o1, vs1, ha1, hb1, hvl1, hc1, hrk⟩ := e1 j hj'
          obtain ⟨m1, ra1, rc1, ka1, kc1, rfl, rfl, -⟩ := id hrk.get
          refine cw_skip (nrm_then ?_)
          refine cw_seq ?_
          refine cw_block ?_
          refine cw_seq ?_
          refine cw_any (fun w0 w' => Evo (jb :: o'.toList) w0 w') (by kernel_rfl) (fun w80 hw81 => ?_)
          have hE82 := hV79.then hw81
          have hB83 := hw81.blk0 hB'
          have hO84 := hO'.evo0 hw81
          have hB85 := hw81.blk0 hB5
          refine ae_take 0 rfl (by kernel_rfl) (by kernel_rfl) (by kernel_rfl) rfl (fun _ hS => ex_move rfl) (Evo.refl (jb :: o'.toList) w80) ?_
          refine ae_take 1 rfl (by kernel_rfl) (by kernel_rfl) (by kernel_rfl) rfl (fun _ hS => ex_fieldAddr rfl Try.fld25_8) (Evo.refl (jb :: o'.toList) w80) ?_
          refine ae_take 2 rfl (by kernel_rfl) (by kernel_rfl) (by kernel_rfl) rfl (fun _ hS => ex_load1 rfl Try.agg23 (cell_nth (hS.blk hB85 (nmem2 hA5J hA5N)) rfl)) (Evo.refl (jb :: o'.toList) w80) ?_
          refine ae_take 3 rfl (by kernel_rfl) (by kernel_rfl) (by kernel_rfl) rfl (fun _ hS => ex_move rfl) (Evo.refl (jb :: o'.toList) w80) ?_
          refine ae_take 4 rfl (by kernel_rfl) (by kernel_rfl) (by kernel_rfl) rfl (fun _ hS => ex_indexAddr (n := j) (by rw [ha1]; rfl) rfl Try.elem23 (by omega)) (Evo.refl (jb :: o'.toList) w80) ?_
          refine ae_take 5 rfl (by kernel_rfl) (by kernel_rfl) (by kernel_rfl) rfl (fun _ hS => ex_loadA rfl Try.agg25 Try.size25 (vs := [_, _, _, _, _, _, _, _, _]) rfl (hc1.evo (hE82.step hS (hyo)) hb1)) (Evo.refl (jb :: o'.toList) w80) ?_
          refine ae_take 6 rfl (by kernel_rfl) (by kernel_rfl) (by kernel_rfl) rfl (fun _ hS => ex_fieldAddr rfl Try.fld25_0) (Evo.refl (jb :: o'.toList) w80) ?_
          refine ae_take 7 rfl (by kernel_rfl) (by kernel_rfl) (by kernel_rfl) rfl (fun _ hS => ex_load1 rfl Try.agg3 (cell_nth (hS.blk hB85 (nmem2 hA5J hA5N)) rfl)) (Evo.refl (jb :: o'.toList) w80) ?_
          refine ae_take 8 rfl (by kernel_rfl) (by kernel_rfl) (by kernel_rfl) rfl (fun _ hS => ex_move rfl) (Evo.refl (jb :: o'.toList) w80) ?_
          refine ae_loud [9] (by kernel_rfl) rfl ⟨?_, trivial⟩
          refine a_step rfl ?_
          have hsz54 := (hE82).size
          have hlb5 := blk_lt hB85
          refine wl_call1 (vs := [_, _, _, _]) Try.goes21 rfl (ih ⟨hB83, hO84, hne'⟩ (RRx.step hrk hE82 hyo hXlt) hsok (by omega) (by omega)) rfl ?_
          rintro _ w86 ⟨r, rfl, hr, hw87, hs2⟩
          have hE88 := hE82.step hw87 (hyo)
          have hE89 := (Evo.refl (jb :: o'.toList) w80).step hw87 (fun y hy => .inl hy)
          have hB90 := hw87.blk hB85 (nmem2 hA5J hA5N)
          refine wl_nil (ae_next (.inl hE89) ?_)
          refine ae_take 10 rfl (by kernel_rfl) (by kernel_rfl) (by kernel_rfl) rfl (fun _ hS => ex_assign rfl) hE89 ?_
          refine ae_done (by kernel_rfl) (nrm_then ?_)
          refine cw_seq ?_
          refine cw_region ?_
          refine wl_m ?_
          refine wl_val rfl (ex_notb rfl) ?_
          refine wl_nil (nrm_then ?_)
          refine cw_ifb rfl (fun hc168 => ?_) (fun hc168 => ?_)
          ·skip
           refine cw_seq ?_
           refine cw_region ?_
           refine wl_a ?_
           refine wl_nil (nrm_then ?_)
           refine cw_ret (ret_block (ret_then (ret_then (ret_block (ret_then (body_ret1 rfl rfl ?_))))))
           have hn : t.kids[j].fine (z2 + if Brk t.kids[j].kind t.kind then 1 else 0) s = none := by
             cases h : t.kids[j].fine (z2 + if Brk t.kids[j].kind t.kind then 1 else 0) s with
             | none => rfl
             | some s3 => rw [h] at hr; simp at hr; rw [hr] at hc168; cases hc168
           have hno : t.fine b st = none := by rw [hfin, fineKids_at hj', hn]
           exact ⟨false, rfl, by rw [hno]; rfl, hE88, fun st' h => by rw [hno] at h; cases h⟩
          ·skip
           obtain ⟨s3, hs3⟩ := Option.isSome_iff_exists.1 (show (t.kids[j].fine _ s).isSome = true by rw [← hr]; simpa using hc168)
           obtain ⟨hsok3, a3, c3, o3, hJ3, ho3⟩ := hs2 s3 hs3
           have hg3 : ∀ g, o3 = some g → g ∈ ob.toList ∨ w.heap.size ≤ g := fun g hg => by rcases ho3 g hg with h | h; exact hgo g (by simpa using h); exact .inr (Nat.le_trans hsz54 h)
           have hb53 : b5 ∉ jb :: o3.toList := fun hm => by rcases List.mem_cons.1 hm with h | h; exact hb5o (by rw [h]; simp); rcases ho3 b5 (by simpa using h) with h1 | h1; exact hb5o (List.mem_cons_of_mem _ h1); omega
           refine cw_skip (nrm_block (nrm_then ?_))
           refine cw_region ?_
           refine wl_m ?_
           refine wl_val rfl (ex_add_i64 rfl rfl (by omega) (by omega)) ?_
           refine wl_a ?_
           refine wl_nil (nrm_same ?_)
           refine ⟨(j + 1, s3, a3, c3, o3), ?_, ⟨rfl, trivial⟩, ⟨rfl, rfl, rfl, trivial⟩, hE88, ?_⟩
           · (try dsimp only); omega
           ·skip
            try dsimp only
            refine ⟨by omega, hsok3, ?_, ⟨hJ3.blk, hJ3.own, hJ3.ne⟩, hg3, hB90, hb53⟩
            rw [hfin, fineKids_at hj', hs3]
         ·skip
          refine cw_exit (ex_then (ex_then (ex_here (nrm_then ?_))))
          refine cw_seq ?_
          refine cw_region ?_
          refine wl_a ?_
          refine wl_nil (nrm_then ?_)
          refine cw_ret (body_ret1 rfl rfl ?_)
          have hn : t.fine b st = some s := by rw [hfin, fineKids_end (by omega)]
          exact ⟨true, rfl, by rw [hn]; rfl, hV79, fun st' h => by rw [hn] at h; cases h; exact ⟨hsok, a', c', o', ⟨hB', hO', hne'⟩, hgo⟩⟩

theorem cvalid_ok : ∀ {n : Nat} {w : World} {jb : Nat} {st : St} {a : Option Addr} {c : Nat} {ob : Option Nat} {vs : List Value} {t : Rx} {k b0 : Int} (hJ : CAt w jb st.1 st.2.length st.2 a c ob) (hx : RRx n (jb :: ob.toList) w vs t) (hst : StOk st) (hb0 : 0 ≤ b0) (hb1 : b0 ≤ 251), Calls Try.prog 21 #[.pointer (some ⟨jb, 0, none⟩), .agg vs.toArray, .int .i64 k, .int .i64 b0] w (Ret fun v w' => ∃ r, v = .bool r ∧ r = (t.fine (b0 + (if Brk t.kind k then 1 else 0)) st).isSome ∧ Evo (jb :: ob.toList) w w' ∧ ∀ st', t.fine (b0 + (if Brk t.kind k then 1 else 0)) st = some st' → StOk st' ∧ ∃ a' c' ob', CAt w' jb st'.1 st'.2.length st'.2 a' c' ob' ∧ ∀ g, ob' = some g → g ∈ ob.toList ∨ w.heap.size ≤ g)
  | 0, w, jb, st, a, c, ob, vs, t, k, b0, hJ, hx, hs, h0, h1 => hx.elim
  | n + 1, w, jb, st, a, c, ob, vs, t, k, b0, hJ, hx, hs, h0, h1 => cvalid_step (n := n) (fun hJ hx hs h0 h1 => cvalid_ok hJ hx hs h0 h1) hJ hx hs h0 h1
theorem CAt.new {w : World} {jb : Nat} (h : w.heap[jb]? = some (.cells #[iv 0, iv 0, .slice none 0 0] 56 (0, 0))) : CAt w jb 0 0 [] none 0 none := ⟨h, OwnS.nil _ _ _, fun g hg => by cases hg⟩

theorem refValid_ok {n : Nat} {w : World} {vs : List Value} {t : Rx} (hx : RRx n [] w vs t) :
    Calls Try.prog 10 #[.agg vs.toArray] w (Ret fun v w' => ∃ r, v = .bool r ∧ (r = true ↔ t.Ok) ∧ Evo [] w w') := by
  have hx0 := hx
  obtain ⟨m, ra, rc, ka, kc, hm, rfl, hrg, hk, bl1, bl2, bl3⟩ := hx.get
  refine calls_of_cw (N := 9) Try.func10 rfl rfl rfl ?_
  refine cw_seq ?_
  refine cw_region ?_
  refine wl_boxA rfl rfl fun b1 w2 hB3 hs4 hw5 => ?_
  have hG6 := Ge.new (Evo.refl [] w) hs4
  have hE7 := (Evo.refl [] w).then hw5
  refine wl_a ?_
  refine wl_nil (nrm_then ?_)
  refine cw_seq ?_
  refine cw_region ?_
  refine wl_val rfl (ex_build (vs := []) Try.build56 rfl (cells := [_, _, _]) rfl) ?_
  refine wl_boxA rfl rfl fun jb w8 hB9 hs10 hw11 => ?_
  have hsz_jb := hs10
  have hA12 := Apart.new (Lt.blk hB3) hs10
  have hG13 := Ge.new hE7 hs10
  have hE14 := hE7.then hw11
  have hB15 := hw11.blk0 hB3
  refine wl_a ?_
  refine wl_nil (nrm_then ?_)
  refine cw_seq ?_
  refine cw_region ?_
  refine wl_m ?_
  refine wl_val rfl (ex_loadBlk rfl Try.agg25 Try.size25 hB15 rfl) ?_
  refine wl_call1 (vs := [_, _, _, _]) Try.goes21 rfl (cvalid_ok (st := (0, [])) (k := 0) (b0 := 0) (CAt.new hB9) (RRx.step hx0 hE14 hG13.mem1 (fun b hb => by cases hb)) ⟨Nat.le_refl _, by decide⟩ (by decide) (by decide)) rfl ?_
  rintro _ w16 ⟨r, rfl, hr, hw17, -⟩
  have hE18 := hE14.step hw17 (hG13.mem1)
  refine wl_a ?_
  refine wl_nil (nrm_then ?_)
  refine cw_ret (body_ret1 rfl rfl ?_)
  exact ⟨r, rfl, by rw [hr, Option.isSome_iff_exists, show (0 + (if Brk t.kind 0 then 1 else 0) : Int) = 0 from by rw [if_neg (by unfold Brk; omega)]; rfl]; rfl, hE18⟩

end Go.Proofs.Ytgboffefbpligaa
