/- utf.All (the iterator), common. -/
import Derived.Test.YtgboffefbpligaaUa
import Derived.Test.YtgboffefbpligaaFw12
namespace Go.Proofs.Ytgboffefbpligaa
open Go.Proofs
open Go.W Go.RowKit
attribute [local irreducible] Decidable.decide
set_option linter.unusedSimpArgs false
set_option linter.unusedVariables false
theorem Try.goes69 : Goes Try.prog 69 := ⟨_, Try.func69, by kernel_rfl, by kernel_rfl⟩
theorem Try.goes70 : Goes Try.prog 70 := ⟨_, Try.func70, by kernel_rfl, by kernel_rfl⟩
theorem Try.goes86 : Goes Try.prog 86 := ⟨_, Try.func86, by kernel_rfl, by kernel_rfl⟩


theorem next_dec {s : ByteArray} {a : Nat} (ha : a < s.size) (h : (Utf8.decode s a).1 = 65533 → a + 3 ≤ s.size ∧ s.extract a (a + 3) = bstr [239, 191, 189]) :
    (nextR s a).1 = ((Utf8.decode s a).1 : Nat) ∧ (nextR s a).2 = (Utf8.decode s a).2 := by
  have h1 : ¬ ((Utf8.decode s a).1 = 65533 ∧ (Utf8.decode s a).2 = 1) := fun ⟨h1, h2⟩ => by
    have := (decode_repl s a h1 ha).2 (h h1)
    omega
  unfold nextR
  rw [if_pos ⟨ha, h1⟩]
  exact ⟨rfl, rfl⟩
/-- What the rune that begins at a place stands for. -/
theorem next_ext {s : ByteArray} {a : Nat} (h : 0 < (nextR s a).2) : s.extract a (a + (nextR s a).2) = bstr (formB (nextR s a).1) ∧ (formB (nextR s a).1).length = (nextR s a).2 ∧ IsR (nextR s a).1 := by
  by_cases ha : a < s.size
  · rcases decode_cases s a ha with ⟨w, h1, h2, h3, hh, hd, h4, h5, -⟩ | ⟨h1, hd⟩
    · have hn := (next_hit h1 h2 h3 hh).1
      rw [hn]
      exact ⟨(hit_eq h3).1 hh, hit_len hh, hit_isR h1 hh⟩
    · unfold nextR at h
      rw [if_neg (fun e => e.2 (by rw [hd]; exact ⟨rfl, rfl⟩))] at h
      cases h
  · rw [next_out (by omega)] at h; cases h
theorem next_le {s : ByteArray} {a : Nat} (h : 0 < (nextR s a).2) : a + (nextR s a).2 ≤ s.size := by
  rcases next_cases s a with h1 | h1
  · rw [h1] at h; cases h
  · exact h1.2.2.2.2
theorem ext_app {s : ByteArray} {a b c : Nat} (h1 : a ≤ b) (h2 : b ≤ c) : s.extract a c = s.extract a b ++ s.extract b c := by
  rw [ByteArray.extract_append_extract]
  congr 1 <;> omega
/-- Two texts that are alike so far and whose next runes are alike are alike so much further. -/
theorem same_step {s t : ByteArray} {p : Nat} (h : s.extract 0 p = t.extract 0 p) (hs : p ≤ s.size) (ht : p ≤ t.size) (hr : (nextR t p).1 = (nextR s p).1) :
    (nextR t p).2 = (nextR s p).2 ∧ p + (nextR s p).2 ≤ s.size ∧ p + (nextR s p).2 ≤ t.size ∧ s.extract 0 (p + (nextR s p).2) = t.extract 0 (p + (nextR s p).2) := by
  have hz : ∀ u : ByteArray, (nextR u p).2 = 0 → (nextR u p).1 = -1 := fun u h0 => by
    rcases next_cases u p with h1 | h1
    · rw [h1]
    · omega
  by_cases e : (nextR s p).2 = 0
  · have e1 := hz s e
    have e2 : (nextR t p).2 = 0 := by
      rcases next_cases t p with h1 | h1
      · rw [h1]
      · omega
    rw [e, e2]; exact ⟨rfl, by omega, by omega, h⟩
  · have h1 := next_ext (s := s) (a := p) (by omega)
    have e2 : 0 < (nextR t p).2 := by
      rcases next_cases t p with h2 | h2
      · rw [h2] at hr
        have := h1.2.2.1
        rw [← hr] at this; simp at this
      · omega
    have h2 := next_ext e2
    have h3 := next_le (s := s) (a := p) (by omega)
    have h4 := next_le e2
    have h5 : (nextR t p).2 = (nextR s p).2 := by rw [← h1.2.1, ← h2.2.1, hr]
    refine ⟨h5, h3, by omega, ?_⟩
    rw [ext_app (s := s) (Nat.zero_le p) (Nat.le_add_right _ _), ext_app (s := t) (Nat.zero_le p) (Nat.le_add_right _ _), h, h1.1, ← h5, h2.1, hr]

theorem next_far {w : World} (s : ByteArray) (a : Nat) (ha : s.size ≤ a) (hl : a ≤ 140737488355328) : Calls Try.prog 70 #[.string s, .int .i64 (a : Nat)] w (Ret fun v w' => v = .tuple #[.int .i32 (nextR s a).1, .int .i64 ((nextR s a).2 : Nat)] ∧ Evo [] w w') := by
  refine calls_of_cw (N := 44) Try.func70 rfl rfl rfl ?_
  refine cw_seq ?_
  refine cw_region ?_
  refine wl_a ?_
  refine wl_a ?_
  refine wl_nil (nrm_then ?_)
  refine cw_seq ?_
  refine cw_seq ?_
  refine cw_region ?_
  refine wl_m ?_
  refine wl_val rfl (ex_lss rfl rfl) ?_
  refine wl_m ?_
  refine wl_split (t := 10) rfl (fun hs10 => ?_) (fun hs10 => ?_)
  ·skip
   refine wl_n ?_
   refine wl_n ?_
   refine wl_n ?_
   refine wl_n ?_
   refine wl_pt ?_
   refine wl_nil (nrm_then ?_)
   refine cw_true rfl ?_
   refine cw_seq ?_
   refine cw_region ?_
   refine wl_a ?_
   refine wl_a ?_
   refine wl_nil (nrm_then ?_)
   refine cw_ret (ret_then (body_ret2 rfl rfl rfl ?_))
   exfalso; omega
  ·skip
   refine wl_g ?_
   refine wl_m ?_
   refine wl_g ?_
   refine wl_m ?_
   refine wl_g ?_
   refine wl_val rfl (ex_len_str rfl Try.underlying9 rfl) ?_
   refine wl_g ?_
   refine wl_val rfl (ex_geq rfl rfl) ?_
   refine wl_pf ?_
   refine wl_nil (nrm_then ?_)
   refine cw_if rfl (fun hc15 => ?_) (fun hc15 => ?_)
   ·skip
    refine cw_seq ?_
    refine cw_region ?_
    refine wl_a ?_
    refine wl_a ?_
    refine wl_nil (nrm_then ?_)
    refine cw_ret (ret_then (body_ret2 rfl rfl rfl ?_))
    exact ⟨by rw [next_out (by omega)]; rfl, (Evo.refl [] w)⟩
   ·skip
    refine cw_skip (nrm_then ?_)
    refine cw_seq ?_
    refine cw_seq ?_
    exfalso; omega


theorem next_any {w : World} (s : ByteArray) (a : Nat) (hs : s.size ≤ 140737488355328) (hl : a ≤ 140737488355328) : Calls Try.prog 70 #[.string s, .int .i64 (a : Nat)] w (Ret fun v w' => v = .tuple #[.int .i32 (nextR s a).1, .int .i64 ((nextR s a).2 : Nat)] ∧ Evo [] w w') := by
  by_cases h : a ≤ s.size
  · exact next_ok s a h hs
  · exact next_far s a (by omega) hl


theorem decode_pos {s : ByteArray} {a : Nat} (ha : a < s.size) : 0 < (Utf8.decode s a).2 := by
  rcases decode_cases s a ha with ⟨w, h1, h2, h3, hh, hd, h4, h5, -⟩ | ⟨h1, hd⟩ <;> rw [hd] <;> simp <;> omega
/-- The runes up to the k-th are good, and there is no further one. -/
def AllTo (s : ByteArray) (k : Nat) : Prop := (∀ j, j < k → 0 < (nextR s (offs s j)).2) ∧ (offs s k = s.size ∨ (nextR s (offs s k)).2 = 0)
abbrev rnv (s : ByteArray) (k : Nat) : Value := .int .i64 ((offs s k : Nat) : Int)
abbrev rnr (s : ByteArray) (k : Nat) : Value := .int .i32 (nextR s (offs s k)).1
structure AiI (W wr : World) (s : ByteArray) (Bs it k : Nat) (J : List Nat → World → Prop) : Prop where
  hw : ∀ j, j < k → 0 < (nextR s (offs s j)).2
  hj : J (List.range k) wr
  hit : wr.heap[it]? = some (.stringIter s (offs s k))
  hbs : wr.heap[Bs]? = some (.cells #[.string s] 9 (0, 0))
  hne : it ≠ Bs
  hge : W.heap.size ≤ it

theorem all1_ok {n0 lp Bs : Nat} {W : World} {s : ByteArray} {J Jx : List Nat → World → Prop} (hn0 : n0 ≤ W.heap.size) (hB : W.heap[Bs]? = some (.cells #[.string s] 9 (0, 0))) (hs : s.size ≤ 140737488355320)
    (hJ : AbidesFrom W.heap.size J) (hY : ∀ pre x W1, J pre W1 → pre.length < s.size → YieldAt Fence.wide 3 Try.prog lp #[rnv s x, rnr s x] W1 fun e W' => (e = .returned (.bool true) ∧ J (pre ++ [x]) W' ∧ KpB n0 Bs W1 W') ∨ (e = .returned (.bool false) ∧ Jx (pre ++ [x]) W')) (h0 : J [] W) :
    Calls Try.prog 86 #[.func (.yield lp) #[] #[], .pointer (some ⟨Bs, 0, none⟩)] W (Ret fun v W' => (∃ k, AllTo s k ∧ J (List.range k) W') ∨ ∃ k, Jx (List.range k) W') := by
  refine calls_of_cw (N := 24) Try.func86 rfl rfl rfl ?_
  refine cw_seq ?_
  refine cw_region ?_
  refine wl_val rfl (ex_load1 rfl Try.agg9 (cell_nth hB rfl)) ?_
  refine wl_rangeS rfl rfl Try.underlying9 fun it w1 hB2 hs3 hw4 => ?_
  have hA5 := Apart.new (Lt.blk hB) hs3
  have hG6 := Ge.new (Evo.refl (XB n0 W) W) hs3
  have hG7 := Ge.new (Evo.refl [] W) hs3
  have hE8 := (Evo.refl (XB n0 W) W).then hw4
  have hE9 := (Evo.refl [] W).then hw4
  have hB10 := hw4.blk0 hB
  refine wl_nil (nrm_then ?_)
  refine cw_block ?_
  refine cw_loop (α := Nat) (0) (fun k => []) [(0, _), (1, _), (6, _)] (fun k wr => Evo (XB n0 W) W wr ∧ (AiI W wr s Bs it k J)) (fun k => s.size - offs s k) trivial ⟨rfl, rfl, rfl, trivial⟩ ⟨hE8, ⟨fun j h => (by cases h), hJ _ _ _ none h0 (evo_grown hE9) (fun r e => by cases e), hB2, hB10, (fun e => by have := hG7 _ rfl; have := blk_lt hB; omega), hG7 _ rfl⟩⟩ ?_
  rintro k wr11 ⟨hV12, ⟨hw, hj, hIt, hBs, hne, hIg⟩⟩
  show CW _ _ _ _ [(0, _), (1, _), (6, _)] _
  have hAib : Apart (some Bs) (some it) := fun g h1 h2 => hne (by cases h1; cases h2; rfl)
  refine cw_seq ?_
  refine cw_region ?_
  by_cases hn13 : offs s k < s.size
  ·skip
   refine wl_nextS rfl rfl hIt hn13 fun w14 hB15 hw16 => ?_
   have hE17 := hV12.step hw16 hG6.mem1
   have hB18 := hw16.blk hBs hAib.nmem1
   have hj9a := hJ _ _ _ (some it) hj (evo_grown1 hw16) (fun r e => by cases e; exact ⟨hIg, _, hIt, rfl⟩)
   have hlt : offs s k < s.size := by omega
   have hkN : k < s.size := by have := offs_ge hw; omega
   refine wl_val rfl (ex_extract rfl rfl) ?_
   refine wl_nil (nrm_then ?_)
   refine cw_seq ?_
   refine cw_true rfl ?_
   refine cw_skip (nrm_then ?_)
   refine cw_block ?_
   refine cw_seq ?_
   refine cw_region ?_
   refine wl_val rfl (ex_extract rfl rfl) ?_
   refine wl_val rfl (ex_extract rfl rfl) ?_
   refine wl_a ?_
   refine wl_a ?_
   refine wl_nil (nrm_then ?_)
   refine cw_seq ?_
   refine cw_seq ?_
   refine cw_region ?_
   refine wl_m ?_
   refine wl_val rfl (ex_eql rfl rfl) ?_
   refine wl_m ?_
   refine wl_split (t := 13) rfl (fun hs13 => ?_) (fun hs13 => ?_)
   ·skip
    refine wl_g ?_
    refine wl_val rfl (ex_load1 rfl Try.agg9 (cell_nth hB18 rfl)) ?_
    refine wl_g ?_
    refine wl_m ?_
    refine wl_g ?_
    refine wl_call1 (vs := [_, _]) Try.goes87 rfl (replaced_ok s (offs s k) (offs_le s k) (by omega)) rfl ?_
    rintro _ w19 ⟨rfl, hw20⟩
    have hE21 := hE17.then hw20
    have hE22 := (Evo.refl [] w14).then hw20
    have hB23 := hw20.blk0 hB18
    have hB24 := hw20.blk0 hB15
    refine wl_g ?_
    refine wl_val rfl (ex_not rfl) ?_
    refine wl_pt ?_
    refine wl_nil (nrm_then ?_)
    refine cw_if rfl (fun hc18 => ?_) (fun hc18 => ?_)
    ·skip
     refine cw_ret (ret_then (ret_block (ret_then (ret_block (body_ret0 rfl ?_)))))
     exact .inl ⟨k, ⟨hw, .inr (by rw [nextR_bad hlt (by omega) (by simpa using hc18)])⟩, hJ _ _ _ none hj9a (evo_grown hE22) (fun r e => by cases e)⟩
    ·skip
     refine cw_skip (nrm_then ?_)
     refine cw_seq ?_
     have hnd : (nextR s (offs s k)).1 = ((Utf8.decode s (offs s k)).1 : Nat) ∧ (nextR s (offs s k)).2 = (Utf8.decode s (offs s k)).2 := next_dec hlt (fun h => by first | (exfalso; omega) | simpa using hc18)
     have hdw := decode_pos hlt
     refine cw_regionY (n := 4) ?_
     refine wly_val rfl (ex_move rfl) ?_
     refine wly_val rfl (ex_move rfl) ?_
     refine wly_val rfl (ex_move rfl) ?_
     have hyk := hY (List.range k) k w19 (hJ _ _ _ none hj9a (evo_grown hE22) (fun r e => by cases e)) (by rw [List.length_range]; exact hkN)
     rw [show rnr s k = Value.int .i32 (((Utf8.decode s (offs s k)).1 : Nat) : Int) from congrArg _ hnd.1] at hyk
     have hIt9 := hB24; have hBs9 := hB23
     refine wly_yield2 rfl rfl rfl rfl hyk ?_
     rintro e w9 (⟨rfl, hj9, hk9⟩ | ⟨rfl, hj9⟩)
     ·skip
      refine ⟨_, rfl, ?_⟩
      refine wly_val rfl (ex_notb rfl) ?_
      refine wly_nil (nrm_then ?_)
      have hE9 := xb_then hE21 hk9.1.1 hn0
      refine cw_false rfl ?_
      refine cw_skip (nrm_block (nrm_same ?_))
      refine ⟨(k + 1), ?_, trivial, ⟨rfl, rfl, rfl, trivial⟩, hE9, ?_⟩
      · (have e0 : offs s (k + 1) = offs s k + (nextR s (offs s k)).2 := rfl; rw [e0, hnd.2]; omega)
      ·skip
       have e0 : offs s (k + 1) = offs s k + (nextR s (offs s k)).2 := rfl
       refine ⟨fun j hj => ?_, by rw [List.range_succ]; exact hj9, ?_, hk9.2.trans hBs9, hne, hIg⟩
       · by_cases e : j < k; exact hw j e; (obtain rfl : j = k := by omega); rw [hnd.2]; exact hdw
       · rw [e0, hnd.2]; exact hk9.1.2.same _ _ hIt9 rfl
     ·skip
      refine ⟨_, rfl, ?_⟩
      refine wly_val rfl (ex_notb rfl) ?_
      refine wly_nil (nrm_then ?_)
      refine cw_true rfl ?_
      refine cw_ret (ret_block (ret_then (ret_block (body_ret0 rfl ?_))))
      exact .inr ⟨k + 1, by rw [List.range_succ]; exact hj9⟩
   ·skip
    refine wl_n ?_
    refine wl_n ?_
    refine wl_n ?_
    refine wl_n ?_
    refine wl_pf ?_
    refine wl_nil (nrm_then ?_)
    refine cw_false rfl ?_
    refine cw_skip (nrm_then ?_)
    refine cw_seq ?_
    have hnd : (nextR s (offs s k)).1 = ((Utf8.decode s (offs s k)).1 : Nat) ∧ (nextR s (offs s k)).2 = (Utf8.decode s (offs s k)).2 := next_dec hlt (fun h => by first | (exfalso; omega) | simpa using hc18)
    have hdw := decode_pos hlt
    refine cw_regionY (n := 4) ?_
    refine wly_val rfl (ex_move rfl) ?_
    refine wly_val rfl (ex_move rfl) ?_
    refine wly_val rfl (ex_move rfl) ?_
    have hyk := hY (List.range k) k w14 (hJ _ _ _ none hj9a (evo_grown (Evo.refl [] w14)) (fun r e => by cases e)) (by rw [List.length_range]; exact hkN)
    rw [show rnr s k = Value.int .i32 (((Utf8.decode s (offs s k)).1 : Nat) : Int) from congrArg _ hnd.1] at hyk
    have hIt9 := hB15; have hBs9 := hB18
    refine wly_yield2 rfl rfl rfl rfl hyk ?_
    rintro e w9 (⟨rfl, hj9, hk9⟩ | ⟨rfl, hj9⟩)
    ·skip
     refine ⟨_, rfl, ?_⟩
     refine wly_val rfl (ex_notb rfl) ?_
     refine wly_nil (nrm_then ?_)
     have hE9 := xb_then hE17 hk9.1.1 hn0
     refine cw_false rfl ?_
     refine cw_skip (nrm_block (nrm_same ?_))
     refine ⟨(k + 1), ?_, trivial, ⟨rfl, rfl, rfl, trivial⟩, hE9, ?_⟩
     · (have e0 : offs s (k + 1) = offs s k + (nextR s (offs s k)).2 := rfl; rw [e0, hnd.2]; omega)
     ·skip
      have e0 : offs s (k + 1) = offs s k + (nextR s (offs s k)).2 := rfl
      refine ⟨fun j hj => ?_, by rw [List.range_succ]; exact hj9, ?_, hk9.2.trans hBs9, hne, hIg⟩
      · by_cases e : j < k; exact hw j e; (obtain rfl : j = k := by omega); rw [hnd.2]; exact hdw
      · rw [e0, hnd.2]; exact hk9.1.2.same _ _ hIt9 rfl
    ·skip
     refine ⟨_, rfl, ?_⟩
     refine wly_val rfl (ex_notb rfl) ?_
     refine wly_nil (nrm_then ?_)
     refine cw_true rfl ?_
     refine cw_ret (ret_block (ret_then (ret_block (body_ret0 rfl ?_))))
     exact .inr ⟨k + 1, by rw [List.range_succ]; exact hj9⟩
  ·skip
   refine wl_nextE rfl rfl hIt hn13 ?_
   refine wl_val rfl (ex_extract rfl rfl) ?_
   refine wl_nil (nrm_then ?_)
   refine cw_seq ?_
   refine cw_false rfl ?_
   refine cw_exit (ex_then (ex_then (ex_here (body_end0 rfl ?_))))
   exact .inl ⟨k, ⟨hw, .inl (by have := offs_le s k; omega)⟩, hj⟩

theorem uall_ok {w : World} (s : ByteArray) : Calls Try.prog 69 #[.string s] w (Ret fun v w' => ∃ b, v = .func (.func 86) #[] #[.pointer (some ⟨b, 0, none⟩)] ∧ w'.heap[b]? = some (.cells #[.string s] 9 (0, 0)) ∧ Ge w (some b) ∧ Evo [] w w') := by
  refine calls_of_cw (N := 4) Try.func69 rfl rfl rfl ?_
  refine cw_seq ?_
  refine cw_region ?_
  refine wl_box1 rfl rfl rfl fun bq w1 hB2 hs3 hw4 => ?_
  have hsz_bq := hs3
  have hG5 := Ge.new (Evo.refl [] w) hs3
  have hE6 := (Evo.refl [] w).then hw4
  refine wl_a ?_
  refine wl_nil (nrm_then ?_)
  refine cw_seq ?_
  refine cw_region ?_
  refine wl_val rfl (ex_makeFunc (vs := [_]) rfl) ?_
  refine wl_a ?_
  refine wl_nil (nrm_then ?_)
  refine cw_ret (body_ret1 rfl rfl ?_)
  exact ⟨bq, rfl, hB2, hG5, hE6⟩


theorem uall_seq {n0 Bs : Nat} {w : World} {s : ByteArray} (hn0 : n0 ≤ w.heap.size) (hB : w.heap[Bs]? = some (.cells #[.string s] 9 (0, 0))) (hs : s.size ≤ 140737488355320) :
    SeqStopsK Fence.wide 4 Try.prog 86 #[.pointer (some ⟨Bs, 0, none⟩)] (fun x : Nat => #[rnv s x, rnr s x]) (KpB n0 Bs) (fun ys => ∃ k, AllTo s k ∧ ys = List.range k) (fun ys => ∃ k, ys = List.range k) s.size w := fun lp J Jx W hW hJ _ hY h0 => by
  have he : Evo [] w W := ⟨hW.os, hW.tape, hW.output, hW.size, fun b hb _ => hW.block b hb⟩
  refine callsIn_wide.2 ((all1_ok (Nat.le_trans hn0 he.size) (he.blk0 hB) hs hJ hY h0).mono ?_)
  rintro e W' ⟨v, rfl, ⟨k, h0, h⟩ | ⟨k, h⟩⟩
  · exact ⟨⟨_, rfl⟩, .inl ⟨_, ⟨k, h0, rfl⟩, h⟩⟩
  · exact ⟨⟨_, rfl⟩, .inr ⟨_, ⟨k, rfl⟩, h⟩⟩
/-- What a round of common keeps: where the two texts are alike so far. -/
def CmI (a b : ByteArray) (be : Nat) (w1 : World) (pre : List Nat) (W : World) : Prop :=
  ∃ e : Nat, W.heap[be]? = some (.cells #[.int .i64 (e : Nat)] 3 (0, 0)) ∧ Evo [be] w1 W ∧ ((∃ k, pre = List.range k) → e = offs a pre.length ∧ e ≤ b.size ∧ a.extract 0 e = b.extract 0 e)
theorem CmI.own (a b : ByteArray) (be : Nat) (w1 : World) : OwnFrom w1.heap.size (CmI a b be w1) := fun _ _ _ _ ⟨e, h1, h2, h3⟩ hg hr =>
  ⟨e, blk_turn h1 hg (fun r e => (hr r e).2), evo_turn h2 hg (fun r e => (hr r e).1), h3⟩
def CmX (a b : ByteArray) (be : Nat) (w1 : World) (c : Code) (pre : List Nat) (W : World) : Prop := c = .exit 0 ∧ ∃ p x, pre = p ++ [x] ∧ (nextR b (offs a x)).1 ≠ (nextR a (offs a x)).1 ∧ CmI a b be w1 p W
theorem CmX.own (a b : ByteArray) (be : Nat) (w1 : World) (c : Code) : OwnFrom w1.heap.size (CmX a b be w1 c) := fun _ _ _ _ ⟨h1, p, x, h2, h4, h3⟩ hg hr => ⟨h1, p, x, h2, h4, CmI.own a b be w1 _ _ _ _ h3 hg hr⟩
theorem range_snoc {p : List Nat} {x : Nat} (h : ∃ k, p ++ [x] = List.range k) : p = List.range p.length ∧ x = p.length := by
  obtain ⟨k, h⟩ := h
  cases k with
  | zero => simp at h
  | succ k =>
    rw [List.range_succ] at h
    obtain ⟨h1, h2⟩ := List.append_inj' h rfl
    have h3 : x = k := by simpa using h2
    rw [h1, List.length_range, h3]; exact ⟨rfl, rfl⟩

theorem common_ok {w : World} (a b : ByteArray) (hla : a.size ≤ 140737488355320) (hlb : b.size ≤ 140737488355320) :
    Calls Try.prog 47 #[.string a, .string b] w (Ret fun v w' => ∃ e : Nat, v = .string (a.extract 0 e) ∧ e ≤ a.size ∧ e ≤ b.size ∧ a.extract 0 e = b.extract 0 e ∧ (a = b → (∃ M, Utf a M) → e = a.size) ∧ Evo [] w w') := by
  refine calls_of_cwM (N := 29) Try.func47 rfl rfl rfl ?_
  refine cw_seq ?_
  refine cw_region ?_
  refine wl_box1 rfl rfl rfl fun bb w1 hB2 hs3 hw4 => ?_
  have hsz_bb := hs3
  have hG5 := Ge.new (Evo.refl [] w) hs3
  have hE6 := (Evo.refl [] w).then hw4
  refine wl_a ?_
  refine wl_nil (nrm_then ?_)
  refine cw_seq ?_
  refine cw_region ?_
  refine wl_alloc rfl Try.zero3 fun be w7 hB8 hs9 hw10 => ?_
  have hsz_be := hs9
  have hA11 := Apart.new (Lt.blk hB2) hs9
  have hG12 := Ge.new hE6 hs9
  have hE13 := hE6.then hw10
  have hB14 := hw10.blk0 hB2
  refine wl_store1 rfl rfl (by first | rfl | assumption) Try.size3 hB8 rfl fun w15 hB16 hw17 => ?_
  have hE18 := hE13.step hw17 hG12.mem1
  have hB19 := hw17.blk hB14 hA11.nmem1
  try simp only [List.setIfInBounds_toArray, List.set_cons_zero, List.set_cons_succ, Nat.reduceAdd, Nat.zero_add, Nat.add_zero] at hB16
  refine wl_nil (nrm_then ?_)
  refine cw_seq ?_
  refine cw_seq ?_
  refine cw_region ?_
  refine wl_m ?_
  refine wl_call1 (vs := [_]) Try.goes69 rfl (uall_ok a) rfl ?_
  rintro _ w20 ⟨b1, rfl, hBs, hGs, hw21⟩
  have hnbe : (some b1 : Option Nat) ≠ some be := fun e => by have h1 := hGs b1 rfl; have h2 := blk_lt hB16; cases e; omega
  have hE22 := hE18.then hw21
  have hB23 := hw21.blk0 hB19
  have hB24 := hw21.blk0 hB16
  refine wl_nil (nrm_then ?_)
  refine cw_block ?_
  have hbeg := hG12 _ rfl
  have hn0 := (hE22).size
  have hbel := blk_lt hB24
  have hBsl := blk_lt hBs
  have hbne : b1 ≠ be := fun e => hnbe (by rw [e])
  refine cw_rangeFuncW2 (α := Nat) (dv := 6) (bs := b1) (dw := 7) (n0 := w.heap.size) rfl (enters_goes Try.goes86) rfl (uall_seq hE22.size hBs hla) (⟨(hE22).size, hBsl⟩) (CmI a b be w20) (CmX a b be w20) (CmI.own _ _ _ _) (fun c => CmX.own _ _ _ _ c) (⟨0, hB24, Evo.refl _ _, fun _ => ⟨rfl, Nat.zero_le _, by simp⟩⟩) (fun x b W => True) (fun x b s A B row hs hg hr => hs) ?_ ?_ ?_ ?_
  ·skip
   intro l pre x W hi
   obtain ⟨e, hBe, hE1, hcm⟩ := id hi
   have hn0W := Nat.le_trans hn0 hE1.size
   refine cwi_seq ?_
   refine cwi_region rfl (fun _ _ h => h) ?_
   refine wl_a ?_
   refine wl_nil (nrm_then ?_)
   refine cwi_region rfl (fun _ _ h => h) ?_
   refine wl_a ?_
   refine wl_nil (?_)
   exact nrm_only ⟨0, rfl, keeps_evo (Evo.refl [] W) (fun _ h => by cases h), ⟨⟨evo_below' (Evo.refl [] W) (fun _ h => by cases h) hn0W, walks_evo (Evo.refl [] W) (fun _ h => by cases h)⟩, rfl⟩, hi, trivial⟩
  ·skip
   intro l pre x bx W hi hax hlt
   obtain ⟨e, hBe, hE1, hcm⟩ := hi
   have hE25 := hE22.step hE1 hG12.mem1
   have hB26 := hE1.blk hB23 hA11.nmem1
   have hn0W := Nat.le_trans hn0 hE1.size
   have hw4 : (nextR b (offs a x)).2 ≤ 4 := by rcases next_cases b (offs a x) with h | h; rw [h]; omega; omega
   have hol := offs_le a x
   refine cwi_block ?_
   refine cwi_seq ?_
   refine cwi_region rfl (fun _ _ h => h) ?_
   refine wl_val rfl (ex_load1 rfl Try.agg9 (cell_nth hB26 rfl)) ?_
   refine wl_m ?_
   refine wl_call1 (vs := [_, _]) Try.goes70 rfl (next_any b (offs a x) (by omega) (by omega)) rfl ?_
   rintro _ w27 ⟨rfl, hw28⟩
   have hE29 := (Evo.refl [be] W).then hw28
   have hE30 := hE1.then hw28
   have hB31 := hw28.blk0 hB26
   have hB32 := hw28.blk0 hBe
   refine wl_m ?_
   refine wl_val rfl (ex_extract rfl rfl) ?_
   refine wl_val rfl (ex_extract rfl rfl) ?_
   refine wl_a ?_
   refine wl_a ?_
   refine wl_nil (nrm_then ?_)
   refine cwi_seq ?_
   refine cwi_seq ?_
   refine cwi_region rfl (fun _ _ h => h) ?_
   refine wl_m ?_
   refine wl_m ?_
   refine wl_val rfl (ex_neq rfl rfl) ?_
   refine wl_nil (nrm_then ?_)
   refine cwi_if rfl (fun hc22 => ?_) (fun hc22 => ?_)
   ·skip
    refine cwi_exit (ex_then (ex_past rfl ?_))
    exact ⟨keeps_evo hE29 (fun y hy => .inl (by rw [List.mem_singleton.1 hy]; exact hbel)), rfl, pre, x, rfl, (by omega), e, hB32, hE30, hcm⟩
   ·skip
    refine cwi_skip (nrm_then ?_)
    refine cwi_region rfl (fun _ _ h => h) ?_
    refine wl_m ?_
    refine wl_m ?_
    refine wl_val rfl (ex_add_i64 rfl rfl (by omega) (by omega)) ?_
    rw [show ((offs a x : Nat) : Int) + ((nextR b (offs a x)).2 : Nat) = ((offs a x + (nextR b (offs a x)).2 : Nat) : Int) from by omega]
    refine wl_store1 rfl rfl (by first | rfl | assumption) Try.size3 hB32 rfl fun w33 hB34 hw35 => ?_
    have hE36 := hE29.step hw35 (fun y hy => .inl hy)
    have hE37 := hE30.step hw35 (fun y hy => .inl hy)
    have hB38 := hw35.blk hB31 hA11.nmem1
    try simp only [List.setIfInBounds_toArray, List.set_cons_zero, List.set_cons_succ, Nat.reduceAdd, Nat.zero_add, Nat.add_zero] at hB34
    refine wl_nil (nrm_block ?_)
    refine ⟨keeps_evo hE36 (fun y hy => .inl (by rw [List.mem_singleton.1 hy]; exact hbel)), ⟨⟨evo_below' hE36 (fun y hy => by rw [List.mem_singleton.1 hy]; exact hbeg) hn0W, walks_evo hE36 (fun y hy => by rw [List.mem_singleton.1 hy]; exact ⟨_, _, _, hBe⟩)⟩, (hE36).block b1 (Nat.lt_of_lt_of_le hBsl hE1.size) (by simpa using hbne)⟩, ?_⟩
    refine ⟨offs a x + (nextR b (offs a x)).2, hB34, hE37, fun hk => ?_⟩
    obtain ⟨h1, h2⟩ := range_snoc hk
    obtain ⟨h3, h4, h5⟩ := hcm ⟨_, h1⟩
    rw [← h2] at h3; rw [h3] at h4 h5
    obtain ⟨h6, h7, h8, h9⟩ := same_step h5 hol h4 (by omega)
    rw [h6, List.length_append, ← h2]; exact ⟨rfl, h8, h9⟩
  ·skip
   intro D pre W hD hS hi hK
   obtain ⟨e, hBe, hE1, hcm⟩ := hi
   have hE39 := hE22.step hE1 hG12.mem1
   have hB40 := hE1.blk hB23 hA11.nmem1
   obtain ⟨k, hall, rfl⟩ := hS
   have hcm2 := hcm ⟨k, rfl⟩
   have hel := offs_le a (List.range k).length
   have hfin : a = b → (∃ M, Utf a M) → e = a.size := fun _ ⟨M, hM⟩ => by have h9 := utf_uniq hall.1 hall.2 hM; rw [hcm2.1, List.length_range, h9]; exact hM.1
   skip
   refine nrm_block (nrm_then ?_)
   refine cw_seq ?_
   refine cw_region ?_
   refine wl_m ?_
   refine wl_val rfl (ex_load1 rfl Try.agg3 (cell_nth hBe rfl)) ?_
   refine wl_val rfl (ex_ssubTo (h := e) rfl rfl Try.underlying9 rfl (by omega)) ?_
   refine wl_a ?_
   refine wl_nil (nrm_then ?_)
   refine cw_ret (?_)
   exact body_retM1 [D] rfl (by simp) (fun D' h => by simp at h; subst h; exact hK) (fun w' hw' => ResOk.tmp rfl) (fun w' hw' => ⟨e, rfl, by omega, hcm2.2.1, hcm2.2.2, hfin, (hE39).step hw' (fun y hy => .inr (by simp at hy; subst hy; omega))⟩)
  ·skip
   intro D c pre W hD hS hi hK
   obtain ⟨rfl, p, x, rfl, hqr, hi⟩ := hi
   obtain ⟨e, hBe, hE1, hcm⟩ := hi
   have hE41 := hE22.step hE1 hG12.mem1
   have hB42 := hE1.blk hB23 hA11.nmem1
   have hcm2 := hcm ⟨_, (range_snoc hS).1⟩
   have hel := offs_le a p.length
   have hfin : a = b → (∃ M, Utf a M) → e = a.size := fun h9 _ => (hqr (by rw [h9])).elim
   refine cw_exit (ex_here (nrm_then ?_))
   refine cw_seq ?_
   refine cw_region ?_
   refine wl_m ?_
   refine wl_val rfl (ex_load1 rfl Try.agg3 (cell_nth hBe rfl)) ?_
   refine wl_val rfl (ex_ssubTo (h := e) rfl rfl Try.underlying9 rfl (by omega)) ?_
   refine wl_a ?_
   refine wl_nil (nrm_then ?_)
   refine cw_ret (?_)
   exact body_retM1 [D] rfl (by simp) (fun D' h => by simp at h; subst h; exact hK) (fun w' hw' => ResOk.tmp rfl) (fun w' hw' => ⟨e, rfl, by omega, hcm2.2.1, hcm2.2.2, hfin, (hE41).step hw' (fun y hy => .inr (by simp at hy; subst hy; omega))⟩)

end Go.Proofs.Ytgboffefbpligaa
