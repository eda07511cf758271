/- The walks of the tree's judge: fine, Valid, Groups. -/
import Derived.Test.YtgboffefbpligaaTc
namespace Go.Proofs.Ytgboffefbpligaa
open Go.Proofs
open Go.W Go.RowKit
attribute [local irreducible] Decidable.decide
set_option linter.unusedSimpArgs false
set_option linter.unusedVariables false
theorem Try.fld79_0 : fieldB Try.prog 79 0 = some 0 := by kernel_rfl
theorem Try.goes35 : Goes Try.prog 35 := ⟨_, Try.func35, by kernel_rfl, by kernel_rfl⟩
theorem Try.goes56 : Goes Try.prog 56 := ⟨_, Try.func56, by kernel_rfl, by kernel_rfl⟩
theorem Try.goes57 : Goes Try.prog 57 := ⟨_, Try.func57, by kernel_rfl, by kernel_rfl⟩


/-- The names of a judge stay within the nodes. -/
def StOk (st : St) : Prop := st.2.length ≤ st.1 ∧ st.1 ≤ 8194
theorem RRx.get {n : Nat} {X : List Nat} {w : World} {vs : List Value} {x : Rx} (h : RRx n X w vs x) : ∃ m ra rc ka kc, n = m + 1 ∧ vs = [iv x.kind, .int .i32 x.r, .slice ra x.ranges.length rc, iv x.min, iv x.max, .bool x.lazy, iv x.cap, .string x.name, .slice ka x.kids.length kc] ∧
    RSl 2 RRg X w (.slice ra x.ranges.length rc) x.ranges ∧ RSl 9 (RRx m) X w (.slice ka x.kids.length kc) x.kids ∧ x.ranges.length ≤ 140737488351232 ∧ x.name.size ≤ 140737488351232 ∧ x.kids.length ≤ 140737488351232 := by
  cases n with
  | zero => exact h.elim
  | succ n =>
    obtain ⟨vr, vk, h1, ⟨ra, rc, rfl, h2⟩, ⟨ka, kc, rfl, h3⟩, h4⟩ := h
    exact ⟨n, ra, rc, ka, kc, rfl, h1, ⟨ra, rc, rfl, h2⟩, ⟨ka, kc, rfl, h3⟩, h4⟩

set_option maxHeartbeats 4000000 in
theorem fine_step {n : Nat} (ih : ∀ (w : World) (jb : Nat) (st : St) (a : Option Addr) (c : Nat) (ob : Option Nat) (vs : List Value) (t : Rx) (b : Int), JAt w 79 jb st a c ob → RRx n (jb :: ob.toList) w vs t → StOk st → 0 ≤ b → b ≤ 251 →
      Calls Try.prog 35 #[.pointer (some ⟨jb, 0, none⟩), .agg vs.toArray, .int .i64 b] w (Ret fun v w' => ∃ r, v = .bool r ∧ r = (t.fine b st).isSome ∧ Evo (jb :: ob.toList) w w' ∧ ∀ st', t.fine b st = some st' → StOk st' ∧ ∃ a' c' ob', JAt w' 79 jb st' a' c' ob' ∧ ∀ g, ob' = some g → g ∈ ob.toList ∨ w.heap.size ≤ g))
    {w : World} {jb : Nat} {st : St} {a : Option Addr} {c : Nat} {ob : Option Nat} {vs : List Value} {t : Rx} {b : Int} (hJ : JAt w 79 jb st a c ob) (hx : RRx (n + 1) (jb :: ob.toList) w vs t) (hst : StOk st) (hb0 : 0 ≤ b) (hb1 : b ≤ 251) :
      Calls Try.prog 35 #[.pointer (some ⟨jb, 0, none⟩), .agg vs.toArray, .int .i64 b] w (Ret fun v w' => ∃ r, v = .bool r ∧ r = (t.fine b st).isSome ∧ Evo (jb :: ob.toList) w w' ∧ ∀ st', t.fine b st = some st' → StOk st' ∧ ∃ a' c' ob', JAt w' 79 jb st' a' c' ob' ∧ ∀ g, ob' = some g → g ∈ ob.toList ∨ w.heap.size ≤ g) := by
  obtain ⟨hB, hO, hne⟩ := hJ
  have hAJN : Apart (some jb) ob := fun g h1 h2 => by cases h1; exact hne jb h2 rfl
  have hlt := blk_lt hB
  have hst1 := hst.1
  have hst2 := hst.2
  have hXlt : ∀ y, y ∈ jb :: ob.toList → y < w.heap.size := fun y hy => by
    rcases List.mem_cons.1 hy with h | h
    · rw [h]; exact hlt
    · have : ob = some y := by simpa using h
      subst this; exact hO.lt
  have hx0 := hx
  obtain ⟨m, ra, rc, ka, kc, hm, rfl, hrg, hk, bl1, bl2, bl3⟩ := hx.get
  obtain rfl : m = n := by omega
  obtain ⟨_, _, hke, hkc, e1⟩ := hk
  cases hke
  refine calls_of_cw (N := 57) Try.func35 rfl rfl rfl ?_
  refine cw_seq ?_
  refine cw_region ?_
  refine wl_boxA rfl rfl fun b4 w1 hB2 hs3 hw4 => ?_
  have hsz_b4 := hs3
  have hA5 := Apart.new (Lt.blk hB) hs3
  have hA6 := Apart.new (Lt.own hO) hs3
  have hG7 := Ge.new (Evo.refl (jb :: ob.toList) w) hs3
  have hE8 := (Evo.refl (jb :: ob.toList) w).then hw4
  have hB9 := hw4.blk0 hB
  have hO10 := hO.evo0 hw4
  refine wl_a ?_
  refine wl_nil (nrm_then ?_)
  refine cw_seq ?_
  refine cw_region ?_
  refine wl_m ?_
  refine wl_val rfl (ex_nilCheck rfl) ?_
  refine wl_val rfl (ex_fieldAddr rfl Try.fld79_0) ?_
  refine wl_val rfl (ex_load1 rfl Try.agg3 (cell_nth hB9 rfl)) ?_
  refine wl_val rfl (ex_add_i64 rfl rfl (by omega) (by omega)) ?_
  refine wl_val rfl (ex_nilCheck rfl) ?_
  refine wl_val rfl (ex_fieldAddr rfl Try.fld79_0) ?_
  refine wl_store1 rfl rfl (by first | rfl | assumption) Try.size3 hB9 rfl fun w11 hB12 hw13 => ?_
  have hE14 := hE8.step hw13 (fun y hy => .inl (by rw [List.mem_singleton.1 hy]; exact List.mem_cons_self ..))
  have hO15 := hO10.evo hw13 hAJN.symm.own1
  have hB16 := hw13.blk hB2 hA5.symm.nmem1
  try simp only [List.setIfInBounds_toArray, List.set_cons_zero, List.set_cons_succ, Nat.reduceAdd, Nat.zero_add, Nat.add_zero] at hB12
  refine wl_nil (nrm_then ?_)
  refine cw_seq ?_
  refine cw_cut (α := Int) (fun z => [(2, .int .i64 z)]) [(0, _), (4, _), (6, _)] (fun z wr => Evo [] w11 wr ∧ (z = if t.kind = 7 then b + 1 else b)) ⟨rfl, rfl, rfl, trivial⟩ ?_ ?_
  ·skip
   refine cw_seq ?_
   refine cw_region ?_
   refine wl_val rfl (ex_fieldAddr rfl Try.fld25_0) ?_
   refine wl_val rfl (ex_load1 rfl Try.agg3 (cell_nth hB16 rfl)) ?_
   refine wl_val rfl (ex_eql rfl rfl) ?_
   refine wl_nil (nrm_then ?_)
   refine cw_if rfl (fun hc19 => ?_) (fun hc19 => ?_)
   ·skip
    refine cw_region ?_
    refine wl_m ?_
    refine wl_val rfl (ex_add_i64 rfl rfl (by omega) (by omega)) ?_
    refine wl_a ?_
    refine wl_nil (nrm_same ?_)
    refine ⟨(b + 1), ⟨rfl, trivial⟩, ⟨rfl, rfl, rfl, trivial⟩, (Evo.refl [] w11), ?_⟩
    rw [if_pos (by assumption)]
   ·skip
    refine cw_skip (nrm_same ?_)
    refine ⟨b, ⟨rfl, trivial⟩, ⟨rfl, rfl, rfl, trivial⟩, (Evo.refl [] w11), ?_⟩
    rw [if_neg (by assumption)]
  ·skip
   rintro z w17 ⟨hV18, hz⟩
   refine nrm_then ?_
   show CW _ _ _ _ [(2, _), (0, _), (4, _), (6, _)] _
   have hE19 := hE14.then hV18
   have hB20 := hV18.blk0 hB12
   have hO21 := hO15.evo0 hV18
   have hB22 := hV18.blk0 hB16
   refine cw_seq ?_
   refine cw_seq ?_
   refine cw_region ?_
   refine wl_m ?_
   refine wl_val rfl (ex_nilCheck rfl) ?_
   refine wl_val rfl (ex_fieldAddr rfl Try.fld79_0) ?_
   refine wl_val rfl (ex_load1 rfl Try.agg3 (cell_nth hB20 rfl)) ?_
   refine wl_val rfl (ex_gtr rfl rfl) ?_
   refine wl_m ?_
   refine wl_split (t := 27) rfl (fun hs27 => ?_) (fun hs27 => ?_)
   ·skip
    refine wl_n ?_
    refine wl_n ?_
    refine wl_pt ?_
    refine wl_m ?_
    refine wl_n ?_
    refine wl_n ?_
    have hlt4 := Lt.blk hB22
    have hszc := (hE19).size
    refine wl_n ?_
    refine wl_n ?_
    refine wl_pt ?_
    refine wl_nil (nrm_then ?_)
    refine cw_true rfl ?_
    refine cw_seq ?_
    refine cw_region ?_
    refine wl_a ?_
    refine wl_nil (nrm_then ?_)
    refine cw_ret (ret_then (body_ret1 rfl rfl ?_))
    have hno := fine_no (x := t) (b := b) (st := st) (fun h => by have := h.1; omega)
    exact ⟨false, rfl, by rw [hno]; rfl, hE19, fun st' h => by rw [hno] at h; cases h⟩
   ·skip
    refine wl_g ?_
    refine wl_m ?_
    refine wl_g ?_
    refine wl_val rfl (ex_gtr rfl rfl) ?_
    refine wl_pf ?_
    refine wl_m ?_
    refine wl_split (t := 31) rfl (fun hs31 => ?_) (fun hs31 => ?_)
    ·skip
     refine wl_n ?_
     refine wl_n ?_
     have hlt4 := Lt.blk hB22
     have hszc := (hE19).size
     refine wl_n ?_
     refine wl_n ?_
     refine wl_pt ?_
     refine wl_nil (nrm_then ?_)
     refine cw_true rfl ?_
     refine cw_seq ?_
     refine cw_region ?_
     refine wl_a ?_
     refine wl_nil (nrm_then ?_)
     refine cw_ret (ret_then (body_ret1 rfl rfl ?_))
     have hno := fine_no (x := t) (b := b) (st := st) (fun h => by have := h.2.1; rw [← hz] at this; omega)
     exact ⟨false, rfl, by rw [hno]; rfl, hE19, fun st' h => by rw [hno] at h; cases h⟩
    ·skip
     refine wl_g ?_
     refine wl_m ?_
     refine wl_g ?_
     refine wl_val rfl (ex_loadBlk rfl Try.agg25 Try.size25 hB22 rfl) ?_
     have hlt4 := Lt.blk hB22
     have hszc := (hE19).size
     refine wl_g ?_
     refine wl_call1 (vs := [_, _]) Try.goes56 rfl (fields_ok (st := (st.1 + 1, st.2)) ⟨hB20, hO21, hne⟩ (RRx.pers _ _ _ _ _ _ hE19 hx0) (by simp only; omega)) rfl ?_
     rintro _ w23 ⟨fb, rfl, hfb, hw24, hfs⟩
     have hE25 := hE19.step hw24 (fun y hy => .inl hy)
     have hB26 := hw24.blk hB22 (nmem2 hA5.symm hA6.symm)
     refine wl_g ?_
     refine wl_val rfl (ex_notb rfl) ?_
     refine wl_pf ?_
     refine wl_nil (nrm_then ?_)
     refine cw_ifb rfl (fun hc36 => ?_) (fun hc36 => ?_)
     ·skip
      refine cw_seq ?_
      refine cw_region ?_
      refine wl_a ?_
      refine wl_nil (nrm_then ?_)
      refine cw_ret (ret_then (body_ret1 rfl rfl ?_))
      have hno := fine_no (x := t) (b := b) (st := st) (fun h => by have := hfb.2 ⟨h.2.2.1, h.2.2.2⟩; rw [this] at hc36; cases hc36)
      exact ⟨false, rfl, by rw [hno]; rfl, hE25, fun st' h => by rw [hno] at h; cases h⟩
     ·skip
      obtain ⟨a2, c2, ob2, hJ2, hob2⟩ := hfs (by simpa using hc36)
      have hfb2 := hfb.1 (by simpa using hc36)
      have hA4 := ap_ob hA6.symm hlt4 hob2
      have hfin0 := fine_yes (x := t) (b := b) (st := st) ⟨by omega, by rw [← hz]; omega, hfb2.1, hfb2.2⟩
      have hst9 : StOk (st.1 + 1, if t.kind = 7 then st.2 ++ [t.name] else st.2) := ⟨by show (if t.kind = 7 then st.2 ++ [t.name] else st.2).length ≤ st.1 + 1; split; (rw [List.length_append]; simp; omega); omega, by show st.1 + 1 ≤ 8194; omega⟩
      have hg9 : ∀ g, ob2 = some g → g ∈ ob.toList ∨ w.heap.size ≤ g := fun g hg => by rcases hob2 with h | ⟨g', h1, h2⟩; left; rw [← h, hg]; simp; right; rw [hg] at h1; cases h1; exact Nat.le_trans hszc h2
      refine cw_skip (nrm_then ?_)
      refine cw_seq ?_
      refine cw_seq ?_
      refine cw_region ?_
      refine wl_val rfl (ex_fieldAddr rfl Try.fld25_8) ?_
      refine wl_val rfl (ex_load1 rfl Try.agg23 (cell_nth hB26 rfl)) ?_
      refine wl_val rfl (ex_len_slice rfl Try.underlying23 rfl) ?_
      refine wl_m ?_
      refine wl_nil (nrm_then ?_)
      refine cw_block ?_
      refine cw_loop (α := Nat × St × Option Addr × Nat × Option Nat) ((0, (st.1 + 1, if t.kind = 7 then st.2 ++ [t.name] else st.2), a2, c2, ob2)) (fun x => [(40, .int .i64 (x.1 : Nat))]) [(0, _), (2, _), (4, _), (38, _), (39, _)] (fun x wr => Evo (jb :: ob.toList) w wr ∧ (x.1 ≤ t.kids.length ∧ StOk x.2.1 ∧ JAt wr 79 jb x.2.1 x.2.2.1 x.2.2.2.1 x.2.2.2.2 ∧ t.fine b st = fineKids (t.kids.drop x.1) t.kind z x.2.1 ∧ (∀ g, x.2.2.2.2 = some g → g ∈ ob.toList ∨ w.heap.size ≤ g) ∧ wr.heap[b4]? = some (.cells #[iv t.kind, .int .i32 t.r, .slice ra t.ranges.length rc, iv t.min, iv t.max, .bool t.lazy, iv t.cap, .string t.name, .slice ka t.kids.length kc] 25 (0, 0)) ∧ b4 ∉ jb :: x.2.2.2.2.toList)) (fun x => t.kids.length - x.1) ⟨rfl, trivial⟩ ⟨rfl, rfl, rfl, rfl, rfl, trivial⟩ ⟨hE25, ⟨Nat.zero_le _, hst9, ⟨hJ2.blk, hJ2.own, hJ2.ne⟩, by rw [hfin0, ← hz]; rfl, hg9, hB26, nmem2 hA5.symm hA4⟩⟩ ?_
      rintro ⟨j, s, a', c', o'⟩ wr27 ⟨hV28, ⟨hj, hsok, ⟨hB', hO', hne'⟩, hfin, hgo, hB4, hb4o⟩⟩
      show CW _ _ _ _ [(40, .int .i64 (j : Nat)), (0, _), (2, _), (4, _), (38, _), (39, _)] _
      try dsimp only at hj
      try dsimp only at hsok
      try dsimp only at hB'
      try dsimp only at hO'
      try dsimp only at hne'
      try dsimp only at hfin
      try dsimp only at hgo
      try dsimp only at hB4
      try dsimp only at hb4o
      have hAJN' : Apart (some jb) o' := fun g h1 h2 => by cases h1; exact hne' jb h2 rfl
      have hA4J : Apart (some b4) (some jb) := fun g h1 h2 => by cases h1; cases h2; exact hb4o (by simp)
      have hA4N : Apart (some b4) o' := fun g h1 h2 => by cases h1; exact hb4o (by simp [h2])
      have hyo : ∀ y, y ∈ jb :: o'.toList → y ∈ jb :: ob.toList ∨ w.heap.size ≤ y := fun y hy => by rcases List.mem_cons.1 hy with h | h; left; rw [h]; simp; rcases hgo y (by simpa using h) with h1 | h1; left; exact List.mem_cons_of_mem _ h1; exact .inr h1
      skip
      refine cw_seq ?_
      refine cw_region ?_
      refine wl_val rfl (ex_lss rfl rfl) ?_
      refine wl_nil (nrm_then ?_)
      refine cw_seq ?_
      refine cw_if rfl (fun hc41 => ?_) (fun hc41 => ?_)
      ·skip
       have hj' : j < t.kids.length := by omega
       obtain ⟨b1, o1, vs1, ha1, hb1, hvl1, hc1, hrk⟩ := e1 j hj'
       obtain ⟨m1, ra1, rc1, ka1, kc1, rfl, rfl, -⟩ := id hrk.get
       refine cw_skip (nrm_then ?_)
       refine cw_seq ?_
       refine cw_block ?_
       refine cw_seq ?_
       refine cw_region ?_
       refine wl_val rfl (ex_indexAddr (n := j) (by rw [ha1]; rfl) rfl Try.elem23 (by omega)) ?_
       refine wl_val rfl (ex_loadA rfl Try.agg25 Try.size25 (vs := [_, _, _, _, _, _, _, _, _]) rfl (hc1.evo hV28 hb1)) ?_
       refine wl_alloc rfl Try.zero25 fun b8 w29 hB30 hs31 hw32 => ?_
       have hsz_b8 := hs31
       have hA33 := Apart.new (Lt.blk hB') hs31
       have hA34 := Apart.new (Lt.own hO') hs31
       have hA35 := Apart.new (Lt.blk hB4) hs31
       have hG36 := Ge.new hV28 hs31
       have hE37 := hV28.then hw32
       have hB38 := hw32.blk0 hB'
       have hO39 := hO'.evo0 hw32
       have hB40 := hw32.blk0 hB4
       refine wl_storeBlk rfl rfl Try.size25 hB30 rfl rfl ⟨by first | rfl | assumption, by first | rfl | assumption, by first | rfl | assumption, by first | rfl | assumption, by first | rfl | assumption, by first | rfl | assumption, by first | rfl | assumption, by first | rfl | assumption, by first | rfl | assumption, trivial⟩ fun w41 hB42 hw43 => ?_
       have hE44 := hE37.step hw43 hG36.mem1
       have hB45 := hw43.blk hB38 hA33.nmem1
       have hO46 := hO39.evo hw43 hA34.own1
       have hB47 := hw43.blk hB40 hA35.nmem1
       try simp only [List.setIfInBounds_toArray, List.set_cons_zero, List.set_cons_succ, Nat.reduceAdd, Nat.zero_add, Nat.add_zero] at hB42
       refine wl_nil (nrm_then ?_)
       refine cw_seq ?_
       refine cw_region ?_
       refine wl_a ?_
       refine wl_nil (nrm_then ?_)
       refine cw_seq ?_
       refine cw_seq ?_
       refine cw_region ?_
       refine wl_val rfl (ex_fieldAddr rfl Try.fld25_0) ?_
       refine wl_val rfl (ex_load1 rfl Try.agg3 (cell_nth hB42 rfl)) ?_
       refine wl_val rfl (ex_fieldAddr rfl Try.fld25_0) ?_
       refine wl_val rfl (ex_load1 rfl Try.agg3 (cell_nth hB47 rfl)) ?_
       refine wl_call1 (vs := [_, _]) Try.goes57 rfl (bracketed_ok t.kids[j].kind t.kind) rfl ?_
       rintro _ w48 ⟨rfl, hw49⟩
       have hE50 := hE44.then hw49
       have hB51 := hw49.blk0 hB45
       have hO52 := hO46.evo0 hw49
       have hB53 := hw49.blk0 hB47
       have hB54 := hw49.blk0 hB42
       refine wl_nil (nrm_then ?_)
       refine cw_if rfl (fun hc48 => ?_) (fun hc48 => ?_)
       ·skip
        refine cw_region ?_
        refine wl_a ?_
        refine wl_nil (nrm_then ?_)
        refine cw_seq ?_
        refine cw_region ?_
        refine wl_m ?_
        refine wl_val rfl (ex_loadBlk rfl Try.agg25 Try.size25 hB54 rfl) ?_
        refine wl_m ?_
        refine wl_m ?_
        refine wl_val rfl (ex_add_i64 rfl rfl (by omega) (by omega)) ?_
        have hsz54 := (hE50).size
        have hlb4 := blk_lt hB53
        refine wl_call1 (vs := [_, _, _]) Try.goes35 rfl (ih _ jb s a' c' o' _ t.kids[j] _ ⟨hB51, hO52, hne'⟩ (RRx.step hrk hE50 hyo hXlt) hsok (by omega) (by omega)) rfl ?_
        rintro _ w55 ⟨r, rfl, hr, hw56, hs2⟩
        have hE57 := hE50.step hw56 (hyo)
        have hB58 := hw56.blk hB53 (hb4o)
        have hB59 := hw56.blk hB54 (nmem2 hA33.symm hA34.symm)
        refine wl_val rfl (ex_notb rfl) ?_
        refine wl_nil (nrm_then ?_)
        refine cw_ifb rfl (fun hc55 => ?_) (fun hc55 => ?_)
        ·skip
         refine cw_seq ?_
         refine cw_region ?_
         refine wl_a ?_
         refine wl_nil (nrm_then ?_)
         refine cw_ret (ret_block (ret_then (ret_then (ret_block (ret_then (body_ret1 rfl rfl ?_))))))
         rw [show (z + 1 : Int) = z + (if Brk t.kids[j].kind t.kind then 1 else 0) from by rw [if_pos hc48]] at hr hs2
         have hn : t.kids[j].fine (z + if Brk t.kids[j].kind t.kind then 1 else 0) s = none := by
           cases h : t.kids[j].fine (z + if Brk t.kids[j].kind t.kind then 1 else 0) s with
           | none => rfl
           | some s3 => rw [h] at hr; simp at hr; rw [hr] at hc55; cases hc55
         have hno : t.fine b st = none := by rw [hfin, fineKids_at hj', hn]
         exact ⟨false, rfl, by rw [hno]; rfl, hE57, fun st' h => by rw [hno] at h; cases h⟩
        ·skip
         rw [show (z + 1 : Int) = z + (if Brk t.kids[j].kind t.kind then 1 else 0) from by rw [if_pos hc48]] at hr hs2
         obtain ⟨s3, hs3⟩ := Option.isSome_iff_exists.1 (show (t.kids[j].fine _ s).isSome = true by rw [← hr]; simpa using hc55)
         obtain ⟨hsok3, a3, c3, o3, hJ3, ho3⟩ := hs2 s3 hs3
         have hg3 : ∀ g, o3 = some g → g ∈ ob.toList ∨ w.heap.size ≤ g := fun g hg => by rcases ho3 g hg with h | h; exact hgo g (by simpa using h); exact .inr (Nat.le_trans hsz54 h)
         have hb43 : b4 ∉ jb :: o3.toList := fun hm => by rcases List.mem_cons.1 hm with h | h; exact hb4o (by rw [h]; simp); rcases ho3 b4 (by simpa using h) with h1 | h1; exact hb4o (List.mem_cons_of_mem _ h1); omega
         refine cw_skip (nrm_block (nrm_then ?_))
         refine cw_region ?_
         refine wl_val rfl (ex_add_i64 rfl rfl (by omega) (by omega)) ?_
         refine wl_m ?_
         refine wl_nil (nrm_same ?_)
         refine ⟨(j + 1, s3, a3, c3, o3), ?_, ⟨rfl, trivial⟩, ⟨rfl, rfl, rfl, rfl, rfl, trivial⟩, hE57, ?_⟩
         · (try dsimp only); omega
         ·skip
          try dsimp only
          refine ⟨by omega, hsok3, ⟨hJ3.blk, hJ3.own, hJ3.ne⟩, ?_, hg3, hB58, hb43⟩
          rw [hfin, fineKids_at hj', hs3]
       ·skip
        refine cw_skip (nrm_then ?_)
        refine cw_seq ?_
        refine cw_region ?_
        refine wl_m ?_
        refine wl_val rfl (ex_loadBlk rfl Try.agg25 Try.size25 hB54 rfl) ?_
        refine wl_m ?_
        refine wl_m ?_
        refine wl_val rfl (ex_add_i64 rfl rfl (by omega) (by omega)) ?_
        have hsz54 := (hE50).size
        have hlb4 := blk_lt hB53
        refine wl_call1 (vs := [_, _, _]) Try.goes35 rfl (ih _ jb s a' c' o' _ t.kids[j] _ ⟨hB51, hO52, hne'⟩ (RRx.step hrk hE50 hyo hXlt) hsok (by omega) (by omega)) rfl ?_
        rintro _ w60 ⟨r, rfl, hr, hw61, hs2⟩
        have hE62 := hE50.step hw61 (hyo)
        have hB63 := hw61.blk hB53 (hb4o)
        have hB64 := hw61.blk hB54 (nmem2 hA33.symm hA34.symm)
        refine wl_val rfl (ex_notb rfl) ?_
        refine wl_nil (nrm_then ?_)
        refine cw_ifb rfl (fun hc55 => ?_) (fun hc55 => ?_)
        ·skip
         refine cw_seq ?_
         refine cw_region ?_
         refine wl_a ?_
         refine wl_nil (nrm_then ?_)
         refine cw_ret (ret_block (ret_then (ret_then (ret_block (ret_then (body_ret1 rfl rfl ?_))))))
         rw [show (z + 0 : Int) = z + (if Brk t.kids[j].kind t.kind then 1 else 0) from by rw [if_neg hc48]] at hr hs2
         have hn : t.kids[j].fine (z + if Brk t.kids[j].kind t.kind then 1 else 0) s = none := by
           cases h : t.kids[j].fine (z + if Brk t.kids[j].kind t.kind then 1 else 0) s with
           | none => rfl
           | some s3 => rw [h] at hr; simp at hr; rw [hr] at hc55; cases hc55
         have hno : t.fine b st = none := by rw [hfin, fineKids_at hj', hn]
         exact ⟨false, rfl, by rw [hno]; rfl, hE62, fun st' h => by rw [hno] at h; cases h⟩
        ·skip
         rw [show (z + 0 : Int) = z + (if Brk t.kids[j].kind t.kind then 1 else 0) from by rw [if_neg hc48]] at hr hs2
         obtain ⟨s3, hs3⟩ := Option.isSome_iff_exists.1 (show (t.kids[j].fine _ s).isSome = true by rw [← hr]; simpa using hc55)
         obtain ⟨hsok3, a3, c3, o3, hJ3, ho3⟩ := hs2 s3 hs3
         have hg3 : ∀ g, o3 = some g → g ∈ ob.toList ∨ w.heap.size ≤ g := fun g hg => by rcases ho3 g hg with h | h; exact hgo g (by simpa using h); exact .inr (Nat.le_trans hsz54 h)
         have hb43 : b4 ∉ jb :: o3.toList := fun hm => by rcases List.mem_cons.1 hm with h | h; exact hb4o (by rw [h]; simp); rcases ho3 b4 (by simpa using h) with h1 | h1; exact hb4o (List.mem_cons_of_mem _ h1); omega
         refine cw_skip (nrm_block (nrm_then ?_))
         refine cw_region ?_
         refine wl_val rfl (ex_add_i64 rfl rfl (by omega) (by omega)) ?_
         refine wl_m ?_
         refine wl_nil (nrm_same ?_)
         refine ⟨(j + 1, s3, a3, c3, o3), ?_, ⟨rfl, trivial⟩, ⟨rfl, rfl, rfl, rfl, rfl, trivial⟩, hE62, ?_⟩
         · (try dsimp only); omega
         ·skip
          try dsimp only
          refine ⟨by omega, hsok3, ⟨hJ3.blk, hJ3.own, hJ3.ne⟩, ?_, hg3, hB63, hb43⟩
          rw [hfin, fineKids_at hj', hs3]
      ·skip
       refine cw_exit (ex_then (ex_then (ex_here (nrm_then ?_))))
       refine cw_seq ?_
       refine cw_region ?_
       refine wl_a ?_
       refine wl_nil (nrm_then ?_)
       refine cw_ret (body_ret1 rfl rfl ?_)
       have hn : t.fine b st = some s := by rw [hfin, fineKids_end (by omega)]
       exact ⟨true, rfl, by rw [hn]; rfl, hV28, fun st' h => by rw [hn] at h; cases h; exact ⟨hsok, a', c', o', ⟨hB', hO', hne'⟩, hgo⟩⟩

end Go.Proofs.Ytgboffefbpligaa
