/- The walks of maps.Keys (the iterators), AppendSeq, Collect, Sorted over strings. -/
import Derived.Test.YtebghjbfdpeipaaJd
namespace Go.Proofs.Ytebghjbfdpeipaa
open Go.Proofs
open Go.W Go.RowKit
attribute [local irreducible] Decidable.decide
set_option linter.unusedSimpArgs false
set_option linter.unusedVariables false
theorem Try.agg35 : aggB Try.prog 35 = some false := by kernel_rfl
theorem Try.agg47 : aggB Try.prog 47 = some false := by kernel_rfl
theorem Try.agg51 : aggB Try.prog 51 = some false := by kernel_rfl
theorem Try.agg9 : aggB Try.prog 9 = some false := by kernel_rfl
theorem Try.app35_35 : appB Try.prog 35 35 = some (9, 1, 16) := by kernel_rfl
theorem Try.goes44 : Goes Try.prog 44 := ⟨_, Try.func44, by kernel_rfl, by kernel_rfl⟩
theorem Try.goes45 : Goes Try.prog 45 := ⟨_, Try.func45, by kernel_rfl, by kernel_rfl⟩
theorem Try.goes46 : Goes Try.prog 46 := ⟨_, Try.func46, by kernel_rfl, by kernel_rfl⟩
theorem Try.goes47 : Goes Try.prog 47 := ⟨_, Try.func47, by kernel_rfl, by kernel_rfl⟩
theorem Try.goes56 : Goes Try.prog 56 := ⟨_, Try.func56, by kernel_rfl, by kernel_rfl⟩
theorem Try.size35 : sizeB Try.prog 35 = some 1 := by kernel_rfl
theorem Try.slice35 : sliceB Try.prog 35 = some (9, 1) := by kernel_rfl


def keyAt (kvs : KV) (i : Nat) : ByteArray := ((kvs[i]?).map Prod.fst).getD ByteArray.empty
theorem keyAt_of {kvs : KV} {i : Nat} {kv : ByteArray × Value} (h : kvs[i]? = some kv) : keyAt kvs i = kv.1 := by simp [keyAt, h]
theorem keys_range (kvs : KV) : (List.range kvs.length).map (keyAt kvs) = kvs.map Prod.fst := by
  apply List.ext_getElem
  · simp
  · intro i h1 h2
    have hi : i < kvs.length := by simpa using h2
    simp [keyAt, hi]
theorem seen_lt {l : List Nat} {n i : Nat} (h1 : l.Nodup) (h2 : ∀ x, x ∈ l → x < n) (hi : i < n) (hn : i ∉ l) : l.length < n := by
  have := seen_le (l := i :: l) (n := n) (List.nodup_cons.2 ⟨hn, h1⟩) (fun x hx => by rcases List.mem_cons.1 hx with rfl | hx; exact hi; exact h2 x hx)
  simp only [List.length_cons] at this; omega
theorem seen_keys {kvs : KV} {seen : List Nat} (h1 : seen.Nodup) (h2 : ∀ x, x ∈ seen → x < kvs.length) (h3 : ∀ i, i < kvs.length → i ∈ seen) : (seen.map (keyAt kvs)).Perm (kvs.map Prod.fst) := by
  rw [← keys_range]; exact (seen_all h1 h2 h3).map _

theorem map_keeps {w w' : World} {b : Nat} {kvs : KV} (h : MapAt w b kvs) (k : KeepsWalks w w') : MapAt w' b kvs := by
  obtain ⟨es, h1, h2⟩ := h
  exact ⟨es, k.same _ _ h1 rfl, h2⟩

theorem keys46_ok {n0 lp Bs mb : Nat} {W : World} {kvs : KV} {J Jx : List ByteArray → World → Prop} (hn0 : n0 ≤ W.heap.size) (hB : W.heap[Bs]? = some (.cells #[.map (some mb)] 47 (0, 0))) (hMp0 : MapAt W mb kvs)
    (hJ : AbidesFrom W.heap.size J) (hY : ∀ pre x W1, J pre W1 → pre.length < kvs.length → YieldAt Fence.wide 3 Try.prog lp #[.string x] W1 fun e W' => (e = .returned (.bool true) ∧ J (pre ++ [x]) W' ∧ KpW n0 W1 W') ∨ (e = .returned (.bool false) ∧ Jx (pre ++ [x]) W')) (h0 : J [] W) :
    Calls Try.prog 46 #[.func (.yield lp) #[] #[], .pointer (some ⟨Bs, 0, none⟩)] W (Ret fun v W' => (∃ ys, ys.Perm (kvs.map Prod.fst) ∧ J ys W') ∨ ∃ pre, Jx pre W') := by
  refine calls_of_cw (N := 14) Try.func46 rfl rfl rfl ?_
  refine cw_seq ?_
  have hE0 := Evo.refl [] W
  refine cw_region ?_
  refine wl_val rfl (ex_load1 rfl Try.agg47 (cell_nth hB rfl)) ?_
  refine wl_rangeM rfl rfl Try.underlying47 hMp0 fun it w1 hB2 hs3 hw4 => ?_
  have hA5 := Apart.new (Lt.blk hB) hs3
  have hA6 := Apart.new (Lt.map hMp0) hs3
  have hG7 := Ge.new (Evo.refl (XB n0 W) W) hs3
  have hG8 := Ge.new (Evo.refl [] W) hs3
  have hE9 := (Evo.refl (XB n0 W) W).then hw4
  have hE10 := (Evo.refl [] W).then hw4
  have hB11 := hw4.blk0 hB
  have hO12 := hMp0.evo0 hw4
  refine wl_nil (nrm_then ?_)
  refine cw_block ?_
  refine cw_loop (α := List Nat) ([]) (fun seen => []) [(0, _), (5, _)] (fun seen wr => Evo (XB n0 W) W wr ∧ (seen.Nodup ∧ (∀ i, i ∈ seen → i < kvs.length) ∧ J (seen.map (keyAt kvs)) wr ∧ IterAt wr it mb kvs.length seen ∧ MapAt wr mb kvs ∧ it ≠ mb ∧ W.heap.size ≤ it)) (fun seen => kvs.length - seen.length) trivial ⟨rfl, rfl, trivial⟩ ⟨hE9, ⟨List.nodup_nil, by simp, hJ _ _ _ none h0 (evo_grown hE10) (fun r e => by cases e), hB2, hO12, fun e => hA6 _ (congrArg some e.symm) rfl, hG8 _ rfl⟩⟩ ?_
  rintro seen wr13 ⟨hV14, ⟨hsn, hsl, hj, hIt, hMp, hne, hIg⟩⟩
  show CW _ _ _ _ [(0, _), (5, _)] _
  have hAim : Apart (some mb) (some it) := fun g h1 h2 => hne (by cases h1; cases h2; rfl)
  refine cw_seq ?_
  refine cw_region ?_
  refine wl_nextM rfl rfl hIt hMp (fun hall => ?_) (fun ni nkv w16 hnkv hns hB17 hw18 => ?_)
  · skip
    refine wl_val rfl (ex_extract rfl rfl) ?_
    refine wl_nil (nrm_then ?_)
    refine cw_seq ?_
    refine cw_false rfl ?_
    refine cw_exit (ex_then (ex_then (ex_here (body_end0 rfl ?_))))
    exact .inl ⟨_, seen_keys hsn hsl hall, hj⟩
  · skip
    skip
    have hE19 := hV14.step hw18 hG7.mem1
    have hO20 := hMp.evo hw18 hAim.nmem1
    have hnk := (List.getElem?_eq_some_iff.1 hnkv).1
    have hit9 : IterAt w16 it mb kvs.length (seen ++ [ni]) := hB17
    have hIt9 := hit9
    have hMp9 := hMp.evo hw18 (by simp; exact fun e => hne e.symm)
    have hj9a := hJ _ _ _ (some it) hj (evo_grown1 hw18) (fun r e => by cases e; exact ⟨hIg, _, hIt, rfl⟩)
    refine wl_val rfl (ex_extract rfl rfl) ?_
    refine wl_nil (nrm_then ?_)
    refine cw_seq ?_
    refine cw_true rfl ?_
    refine cw_skip (nrm_then ?_)
    refine cw_block ?_
    refine cw_seq ?_
    refine cw_region ?_
    refine wl_val rfl (ex_entry rfl hit9 hMp9 hnkv) ?_
    refine wl_val rfl (ex_extract rfl rfl) ?_
    refine wl_val rfl (ex_assign rfl) ?_
    refine wl_nil (nrm_then ?_)
    refine cw_seq ?_
    refine cw_regionY (n := 4) ?_
    refine wly_val rfl (ex_move rfl) ?_
    refine wly_val rfl (ex_move rfl) ?_
    have hbm := blk_lt hIt9
    refine wly_yield rfl rfl rfl (hY (seen.map (keyAt kvs)) nkv.1 w16 hj9a (by rw [List.length_map]; exact seen_lt hsn hsl hnk hns)) ?_
    rintro e w9 (⟨rfl, hj9, hk9⟩ | ⟨rfl, hj9⟩)
    · skip
      refine ⟨_, rfl, ?_⟩
      refine wly_val rfl (ex_notb rfl) ?_
      refine wly_nil (nrm_then ?_)
      have hE9 := xb_then hE19 hk9.1 hn0
      refine cw_false rfl ?_
      refine cw_skip (nrm_block (nrm_same ?_))
      refine ⟨(seen ++ [ni]), ?_, trivial, ⟨rfl, rfl, trivial⟩, hE9, ?_⟩
      · (have := seen_lt hsn hsl hnk hns; rw [List.length_append]; simp; omega)
      · skip
        refine ⟨?_, ?_, ?_, ?_, ?_, hne, hIg⟩
        · exact List.nodup_append.2 ⟨hsn, by simp, fun a ha b hb e => by simp at hb; subst hb; exact hns (e ▸ ha)⟩
        · intro i hi; rcases List.mem_append.1 hi with hi | hi; exact hsl i hi; simp at hi; subst hi; exact hnk
        · rw [List.map_append, List.map_cons, List.map_nil, keyAt_of hnkv]; exact hj9
        · exact hk9.2.same _ _ hit9 rfl
        · exact map_keeps hMp9 hk9.2
    · skip
      refine ⟨_, rfl, ?_⟩
      refine wly_val rfl (ex_notb rfl) ?_
      refine wly_nil (nrm_then ?_)
      refine cw_true rfl ?_
      refine cw_ret (ret_block (ret_then (ret_block (body_ret0 rfl ?_))))
      exact .inr ⟨_, hj9⟩

theorem keys47_ok {n0 lp Bs mb : Nat} {W : World} {kvs : KV} {J Jx : List ByteArray → World → Prop} (hn0 : n0 ≤ W.heap.size) (hB : W.heap[Bs]? = some (.cells #[.map (some mb)] 51 (0, 0))) (hMp0 : MapAt W mb kvs)
    (hJ : AbidesFrom W.heap.size J) (hY : ∀ pre x W1, J pre W1 → pre.length < kvs.length → YieldAt Fence.wide 3 Try.prog lp #[.string x] W1 fun e W' => (e = .returned (.bool true) ∧ J (pre ++ [x]) W' ∧ KpW n0 W1 W') ∨ (e = .returned (.bool false) ∧ Jx (pre ++ [x]) W')) (h0 : J [] W) :
    Calls Try.prog 47 #[.func (.yield lp) #[] #[], .pointer (some ⟨Bs, 0, none⟩)] W (Ret fun v W' => (∃ ys, ys.Perm (kvs.map Prod.fst) ∧ J ys W') ∨ ∃ pre, Jx pre W') := by
  refine calls_of_cw (N := 14) Try.func47 rfl rfl rfl ?_
  refine cw_seq ?_
  have hE0 := Evo.refl [] W
  refine cw_region ?_
  refine wl_val rfl (ex_load1 rfl Try.agg51 (cell_nth hB rfl)) ?_
  refine wl_rangeM rfl rfl Try.underlying51 hMp0 fun it w1 hB2 hs3 hw4 => ?_
  have hA5 := Apart.new (Lt.blk hB) hs3
  have hA6 := Apart.new (Lt.map hMp0) hs3
  have hG7 := Ge.new (Evo.refl (XB n0 W) W) hs3
  have hG8 := Ge.new (Evo.refl [] W) hs3
  have hE9 := (Evo.refl (XB n0 W) W).then hw4
  have hE10 := (Evo.refl [] W).then hw4
  have hB11 := hw4.blk0 hB
  have hO12 := hMp0.evo0 hw4
  refine wl_nil (nrm_then ?_)
  refine cw_block ?_
  refine cw_loop (α := List Nat) ([]) (fun seen => []) [(0, _), (5, _)] (fun seen wr => Evo (XB n0 W) W wr ∧ (seen.Nodup ∧ (∀ i, i ∈ seen → i < kvs.length) ∧ J (seen.map (keyAt kvs)) wr ∧ IterAt wr it mb kvs.length seen ∧ MapAt wr mb kvs ∧ it ≠ mb ∧ W.heap.size ≤ it)) (fun seen => kvs.length - seen.length) trivial ⟨rfl, rfl, trivial⟩ ⟨hE9, ⟨List.nodup_nil, by simp, hJ _ _ _ none h0 (evo_grown hE10) (fun r e => by cases e), hB2, hO12, fun e => hA6 _ (congrArg some e.symm) rfl, hG8 _ rfl⟩⟩ ?_
  rintro seen wr13 ⟨hV14, ⟨hsn, hsl, hj, hIt, hMp, hne, hIg⟩⟩
  show CW _ _ _ _ [(0, _), (5, _)] _
  have hAim : Apart (some mb) (some it) := fun g h1 h2 => hne (by cases h1; cases h2; rfl)
  refine cw_seq ?_
  refine cw_region ?_
  refine wl_nextM rfl rfl hIt hMp (fun hall => ?_) (fun ni nkv w16 hnkv hns hB17 hw18 => ?_)
  · skip
    refine wl_val rfl (ex_extract rfl rfl) ?_
    refine wl_nil (nrm_then ?_)
    refine cw_seq ?_
    refine cw_false rfl ?_
    refine cw_exit (ex_then (ex_then (ex_here (body_end0 rfl ?_))))
    exact .inl ⟨_, seen_keys hsn hsl hall, hj⟩
  · skip
    skip
    have hE19 := hV14.step hw18 hG7.mem1
    have hO20 := hMp.evo hw18 hAim.nmem1
    have hnk := (List.getElem?_eq_some_iff.1 hnkv).1
    have hit9 : IterAt w16 it mb kvs.length (seen ++ [ni]) := hB17
    have hIt9 := hit9
    have hMp9 := hMp.evo hw18 (by simp; exact fun e => hne e.symm)
    have hj9a := hJ _ _ _ (some it) hj (evo_grown1 hw18) (fun r e => by cases e; exact ⟨hIg, _, hIt, rfl⟩)
    refine wl_val rfl (ex_extract rfl rfl) ?_
    refine wl_nil (nrm_then ?_)
    refine cw_seq ?_
    refine cw_true rfl ?_
    refine cw_skip (nrm_then ?_)
    refine cw_block ?_
    refine cw_seq ?_
    refine cw_region ?_
    refine wl_val rfl (ex_entry rfl hit9 hMp9 hnkv) ?_
    refine wl_val rfl (ex_extract rfl rfl) ?_
    refine wl_val rfl (ex_assign rfl) ?_
    refine wl_nil (nrm_then ?_)
    refine cw_seq ?_
    refine cw_regionY (n := 4) ?_
    refine wly_val rfl (ex_move rfl) ?_
    refine wly_val rfl (ex_move rfl) ?_
    have hbm := blk_lt hIt9
    refine wly_yield rfl rfl rfl (hY (seen.map (keyAt kvs)) nkv.1 w16 hj9a (by rw [List.length_map]; exact seen_lt hsn hsl hnk hns)) ?_
    rintro e w9 (⟨rfl, hj9, hk9⟩ | ⟨rfl, hj9⟩)
    · skip
      refine ⟨_, rfl, ?_⟩
      refine wly_val rfl (ex_notb rfl) ?_
      refine wly_nil (nrm_then ?_)
      have hE9 := xb_then hE19 hk9.1 hn0
      refine cw_false rfl ?_
      refine cw_skip (nrm_block (nrm_same ?_))
      refine ⟨(seen ++ [ni]), ?_, trivial, ⟨rfl, rfl, trivial⟩, hE9, ?_⟩
      · (have := seen_lt hsn hsl hnk hns; rw [List.length_append]; simp; omega)
      · skip
        refine ⟨?_, ?_, ?_, ?_, ?_, hne, hIg⟩
        · exact List.nodup_append.2 ⟨hsn, by simp, fun a ha b hb e => by simp at hb; subst hb; exact hns (e ▸ ha)⟩
        · intro i hi; rcases List.mem_append.1 hi with hi | hi; exact hsl i hi; simp at hi; subst hi; exact hnk
        · rw [List.map_append, List.map_cons, List.map_nil, keyAt_of hnkv]; exact hj9
        · exact hk9.2.same _ _ hit9 rfl
        · exact map_keeps hMp9 hk9.2
    · skip
      refine ⟨_, rfl, ?_⟩
      refine wly_val rfl (ex_notb rfl) ?_
      refine wly_nil (nrm_then ?_)
      refine cw_true rfl ?_
      refine cw_ret (ret_block (ret_then (ret_block (body_ret0 rfl ?_))))
      exact .inr ⟨_, hj9⟩

theorem seq46 {n0 Bs mb : Nat} {w w0 : World} {kvs : KV} (hn0 : n0 ≤ w.heap.size) (hB : w.heap[Bs]? = some (.cells #[.map (some mb)] 47 (0, 0))) (hm : MapAt w mb kvs) :
    SeqStopsK Fence.wide 4 Try.prog 46 #[.pointer (some ⟨Bs, 0, none⟩)] (fun x : ByteArray => #[.string x]) (KpW n0) (fun ys => ys.Perm (kvs.map Prod.fst)) (fun _ => True) kvs.length w := fun lp J Jx W hW hJ _ hY h0 => by
  have he : Evo [] w W := ⟨hW.os, hW.tape, hW.output, hW.size, fun b hb _ => hW.block b hb⟩
  refine callsIn_wide.2 ((keys46_ok (Nat.le_trans hn0 he.size) (he.blk0 hB) (hm.evo0 he) hJ hY h0).mono ?_)
  rintro e W' ⟨v, rfl, ⟨ys, h1, h2⟩ | ⟨pre, h2⟩⟩
  · exact ⟨⟨_, rfl⟩, .inl ⟨ys, h1, h2⟩⟩
  · exact ⟨⟨_, rfl⟩, .inr ⟨pre, trivial, h2⟩⟩

theorem seq47 {n0 Bs mb : Nat} {w w0 : World} {kvs : KV} (hn0 : n0 ≤ w.heap.size) (hB : w.heap[Bs]? = some (.cells #[.map (some mb)] 51 (0, 0))) (hm : MapAt w mb kvs) :
    SeqStopsK Fence.wide 4 Try.prog 47 #[.pointer (some ⟨Bs, 0, none⟩)] (fun x : ByteArray => #[.string x]) (KpW n0) (fun ys => ys.Perm (kvs.map Prod.fst)) (fun _ => True) kvs.length w := fun lp J Jx W hW hJ _ hY h0 => by
  have he : Evo [] w W := ⟨hW.os, hW.tape, hW.output, hW.size, fun b hb _ => hW.block b hb⟩
  refine callsIn_wide.2 ((keys47_ok (Nat.le_trans hn0 he.size) (he.blk0 hB) (hm.evo0 he) hJ hY h0).mono ?_)
  rintro e W' ⟨v, rfl, ⟨ys, h1, h2⟩ | ⟨pre, h2⟩⟩
  · exact ⟨⟨_, rfl⟩, .inl ⟨ys, h1, h2⟩⟩
  · exact ⟨⟨_, rfl⟩, .inr ⟨pre, trivial, h2⟩⟩

/-- The list that a round fills: its box, its own memory. -/
def LI (bx : Nat) (w1 : World) (pre : List ByteArray) (W : World) : Prop := ∃ la lc lob, W.heap[bx]? = some (.cells #[.slice la pre.length lc] 35 (0, 0)) ∧ OwnS W 9 1 la pre.length lc (pre.map sv) lob ∧ Ge w1 lob ∧ Evo [bx] w1 W
theorem LI.own (bx : Nat) (w1 : World) : OwnFrom w1.heap.size (LI bx w1) := fun _ _ _ _ ⟨la, lc, lob, h1, h2, h3, h4⟩ hg hr =>
  ⟨la, lc, lob, blk_turn h1 hg (fun r e => (hr r e).2), own_turn h2 hg (fun r e => (hr r e).2), h3, evo_turn h4 hg (fun r e => (hr r e).1)⟩
theorem LI.evo {bx : Nat} {w1 : World} {pre : List ByteArray} {W W' : World} (h : LI bx w1 pre W) (he : Evo [] W W') : LI bx w1 pre W' := by
  obtain ⟨la, lc, lob, h1, h2, h3, h4⟩ := h
  exact ⟨la, lc, lob, he.blk0 h1, h2.evo0 he, h3, h4.then he⟩
theorem own_ne {w : World} {e : TypeId} {sz : Nat} {a : Option Addr} {n c : Nat} {xs : List Value} {ob : Option Nat} {D : Nat} {d : Option (List Deferred)} (h : OwnS w e sz a n c xs ob) (hD : w.heap[D]? = some (.deferred d)) : ∀ g, ob = some g → g ∉ [D] := fun g hg hm => by
  have hm : g = D := by simpa using hm
  subst hm hg
  rcases h.2 with ⟨_, _, h3⟩ | ⟨g', cap, cur, hg, _, hbk, _⟩
  · cases h3
  · cases hg; rw [hD] at hbk; cases hbk
def NoStop (c : Code) (pre : List ByteArray) (W : World) : Prop := False
theorem cells_l {bx : Nat} {W : World} {a : Option Addr} {n c : Nat} {xs cs0 : List Value} {t0 : TypeId} {ob : Option Nat} (hb : W.heap[bx]? = some (.cells cs0.toArray t0 (0, 0))) (h : OwnS W 9 1 a n c xs ob) : ∀ b, b ∈ bx :: ob.toList → ∃ cs t fz, W.heap[b]? = some (.cells cs t fz) := fun b hm => by
  rcases List.mem_cons.1 hm with rfl | hm
  · exact ⟨_, _, _, hb⟩
  · rcases h.2 with ⟨_, _, h3⟩ | ⟨g, cap, cur, hg, _, hbk, _⟩
    · rw [h3] at hm; simp at hm
    · rw [hg] at hm; have : b = g := by simpa using hm
      subst this; exact ⟨_, _, _, hbk⟩
theorem low_l {bx n0 : Nat} {w1 : World} {ob : Option Nat} (hb : n0 ≤ bx) (h1 : n0 ≤ w1.heap.size) (h : Ge w1 ob) : ∀ b, b ∈ bx :: ob.toList → n0 ≤ b := fun b hm => by
  rcases List.mem_cons.1 hm with rfl | hm
  · exact hb
  · have := h b (by simpa using hm); omega

theorem appendSeq_ok {w : World} {gf : Nat} {lb : Array Value} {keys : List ByteArray} (hgo : Goes Try.prog gf) (hK : keys.length ≤ 1000000000)
    (hseq : ∀ w1, Evo [] w w1 → SeqStopsK Fence.wide 4 Try.prog gf lb (fun x : ByteArray => #[.string x]) (KpW w.heap.size) (fun ys => ys.Perm keys) (fun _ => True) keys.length w1) :
    Calls Try.prog 56 #[.slice none 0 0, .func (.func gf) #[] lb] w (Ret fun v w' => ∃ (ys : List ByteArray) (a : Option Addr) (c : Nat) (ob : Option Nat), v = .slice a ys.length c ∧ ys.Perm keys ∧ OwnS w' 9 1 a ys.length c (ys.map sv) ob ∧ Ge w ob ∧ Evo [] w w') := by
  refine calls_of_cwM (N := 13) Try.func56 rfl rfl rfl ?_
  refine cw_seq ?_
  refine cw_region ?_
  refine wl_box1 rfl rfl rfl fun bq w1 hB2 hs3 hw4 => ?_
  have hG5 := Ge.new (Evo.refl [] w) hs3
  have hE6 := (Evo.refl [] w).then hw4
  refine wl_val rfl (ex_assign rfl) ?_
  refine wl_nil (nrm_then ?_)
  refine cw_seq ?_
  refine cw_seq ?_
  refine cw_region ?_
  refine wl_val rfl (ex_move rfl) ?_
  refine wl_nil (nrm_then ?_)
  refine cw_block ?_
  have hbqg := hG5 _ rfl
  have hn0 := (hE6).size
  refine cw_rangeFuncW (α := ByteArray) (dv := 5) (val := fun x _ => .string x) (n0 := w.heap.size) rfl (enters_goes hgo) rfl (hseq _ hE6) ((hE6).size) (LI bq w1) (NoStop) (LI.own _ _) (fun _ _ _ _ _ h => h.elim) (⟨none, 0, none, hB2, OwnS.nil _ _ _, Ge.nil _, Evo.refl _ _⟩) (fun x b W => True) (fun x b s A B row hs hg hr => hs) ?_ ?_ ?_ ?_
  · skip
    intro l pre x W hi
    obtain ⟨la, lc, lob, hBX, hOl, hGl, hE1⟩ := id hi
    have hn0W := Nat.le_trans hn0 hE1.size
    refine cwi_region rfl (fun _ _ h => h) ?_
    refine wl_val rfl (ex_assign rfl) ?_
    refine wl_nil (?_)
    exact nrm_only ⟨0, rfl, keeps_evo (Evo.refl [] W) (fun _ h => by cases h), ⟨evo_below' (Evo.refl [] W) (fun _ h => by cases h) hn0W, walks_evo (Evo.refl [] W) (fun _ h => by cases h)⟩, hi.evo (Evo.refl [] W), trivial⟩
  · skip
    intro l pre x bx W hi hax hlt
    obtain ⟨la, lc, lob, hBX, hOl, hGl, hE1⟩ := hi
    have hn0W := Nat.le_trans hn0 hE1.size
    have hA7 := Apart.fresh (Lt.blk hB2) hGl
    have hG8 := Ge.fresh hE6 hGl
    have hE9 := hE6.step hE1 hG5.mem1
    have hcl := cells_l hBX hOl
    have hbl := low_l hbqg hn0 hGl
    refine cwi_block ?_
    refine cwi_region rfl (fun _ _ h => h) ?_
    refine wl_val rfl (ex_load1 rfl Try.agg35 (cell_nth hBX rfl)) ?_
    refine wl_val rfl (ex_move rfl) ?_
    refine wl_bslice (vs := [_]) rfl Try.slice35 rfl rfl rfl rfl fun b10 w11 hO12 hs13 hw14 => ?_
    have hA15 := Apart.new (Lt.blk hBX) hs13
    have hA16 := Apart.new (Lt.own hOl) hs13
    have hG17 := Ge.new (Evo.refl (bq :: lob.toList) W) hs13
    have hG18 := Ge.new hE1 hs13
    have hE19 := (Evo.refl (bq :: lob.toList) W).then hw14
    have hE20 := hE1.then hw14
    have hB21 := hw14.blk0 hBX
    have hO22 := hOl.evo0 hw14
    refine wl_append rfl rfl rfl rfl Try.app35_35 hO22 (Src.ofOwn hO12 ⟨by first | rfl | assumption, trivial⟩) (by omega) fun a9 c9 w25 ob9 hO9 hw28 hob29 => ?_
    have hA30 := hA7.app (Lt.blk hB21) hob29
    have hA31 := hA16.symm.app (Lt.own hO12) hob29
    have hG32 := hGl.app hE20 hob29
    have hE33 := hE19.step hw28 (fun y hy => .inl (List.mem_cons_of_mem _ hy))
    have hE34 := hE20.step hw28 hGl.mem
    have hB35 := hw28.blk hB21 hA7.nmem
    have hO36 := hO12.evo hw28 hA16.symm.own
    refine wl_store1 rfl rfl (by first | rfl | assumption) Try.size35 hB35 rfl fun w37 hB38 hw39 => ?_
    have hE40 := hE33.step hw39 (fun y hy => .inl (by rw [List.mem_singleton.1 hy]; exact List.mem_cons_self ..))
    have hE41 := hE34.step hw39 (fun y hy => .inl hy)
    have hO42 := hO36.evo hw39 hA15.symm.own1
    have hO43 := hO9.evo hw39 hA30.symm.own1
    try simp only [List.setIfInBounds_toArray, List.set_cons_zero, List.set_cons_succ, Nat.reduceAdd, Nat.zero_add, Nat.add_zero] at hB38
    refine wl_nil (nrm_block ?_)
    refine ⟨keeps_evo hE40 (fun b hb => .inr (hcl b hb)), ⟨evo_below' hE40 hbl hn0W, walks_evo hE40 hcl⟩, ?_⟩
    have hpl : (pre ++ [x]).length = pre.length + 1 := by simp
    exact ⟨a9, c9, ob9, by rw [hpl]; exact hB38, by rw [hpl, List.map_append]; exact hO43, hG32, hE41⟩
  · skip
    intro D pre W hD hS hi hK
    obtain ⟨la, lc, lob, hBX, hOl, hGl, hE1⟩ := hi
    have hA44 := Apart.fresh (Lt.blk hB2) hGl
    have hG45 := Ge.fresh hE6 hGl
    have hE46 := hE6.step hE1 hG5.mem1
    skip
    refine nrm_block (nrm_then ?_)
    refine cw_seq ?_
    refine cw_region ?_
    refine wl_val rfl (ex_load1 rfl Try.agg35 (cell_nth hBX rfl)) ?_
    refine wl_val rfl (ex_assign rfl) ?_
    refine wl_nil (nrm_then ?_)
    refine cw_ret (?_)
    exact body_retM1 [D] rfl (by simp) (fun D' h => by simp at h; subst h; exact hK) (fun w' hw' => ResOk.tmp rfl) (fun w' hw' => ⟨pre, la, lc, lob, rfl, hS, (hOl).evo hw' (own_ne hOl hK), fun g hg => Nat.le_trans hn0 (hGl g hg), (hE46).step hw' (fun y hy => .inr (by simp at hy; subst hy; omega))⟩)
  · skip
    intro D c pre W hD hS hi hK
    exact hi.elim

theorem collect_str {w : World} {gf : Nat} {lb : Array Value} {keys : List ByteArray} (hgo : Goes Try.prog gf) (hK : keys.length ≤ 1000000000)
    (hseq : ∀ w1, Evo [] w w1 → SeqStopsK Fence.wide 4 Try.prog gf lb (fun x : ByteArray => #[.string x]) (KpW w.heap.size) (fun ys => ys.Perm keys) (fun _ => True) keys.length w1) :
    Calls Try.prog 44 #[.func (.func gf) #[] lb] w (Ret fun v w' => ∃ (ys : List ByteArray) (a : Option Addr) (c : Nat) (ob : Option Nat), v = .slice a ys.length c ∧ ys.Perm keys ∧ OwnS w' 9 1 a ys.length c (ys.map sv) ob ∧ Ge w ob ∧ Evo [] w w') := by
  refine calls_of_cw (N := 5) Try.func44 rfl rfl rfl ?_
  refine cw_seq ?_
  refine cw_region ?_
  refine wl_val rfl (ex_assign rfl) ?_
  refine wl_nil (nrm_then ?_)
  refine cw_seq ?_
  refine cw_region ?_
  refine wl_val rfl (ex_move rfl) ?_
  refine wl_call1 (vs := [_, _]) Try.goes56 rfl (appendSeq_ok hgo hK (fun w1 h1 => by have e := ((Evo.refl [] w)).size; exact hseq w1 (((Evo.refl [] w)).then h1))) rfl ?_
  rintro _ w1 ⟨ys, a, c, ob, rfl, hP, hO, hG, hw2⟩
  have hE3 := (Evo.refl [] w).then hw2
  refine wl_val rfl (ex_assign rfl) ?_
  refine wl_nil (nrm_then ?_)
  refine cw_ret (body_ret1 rfl rfl ?_)
  exact ⟨ys, a, c, ob, rfl, hP, hO, hG, hE3⟩

theorem sorted_str {w : World} {gf : Nat} {lb : Array Value} {keys : List ByteArray} (hgo : Goes Try.prog gf) (hK : keys.length ≤ 1000000000) (hN : keys.Nodup)
    (hseq : ∀ w1, Evo [] w w1 → SeqStopsK Fence.wide 4 Try.prog gf lb (fun x : ByteArray => #[.string x]) (KpW w.heap.size) (fun ys => ys.Perm keys) (fun _ => True) keys.length w1) :
    Calls Try.prog 30 #[.func (.func gf) #[] lb] w (Ret fun v w' => ∃ (ys : List ByteArray) (a : Option Addr) (c : Nat) (ob : Option Nat), v = .slice a ys.length c ∧ ys.Perm keys ∧ SRs ys ∧ OwnS w' 9 1 a ys.length c (ys.map sv) ob ∧ Ge w ob ∧ Evo [] w w') := by
  refine calls_of_cw (N := 9) Try.func30 rfl rfl rfl ?_
  refine cw_seq ?_
  refine cw_region ?_
  refine wl_val rfl (ex_assign rfl) ?_
  refine wl_nil (nrm_then ?_)
  refine cw_seq ?_
  refine cw_region ?_
  refine wl_val rfl (ex_move rfl) ?_
  refine wl_call1 (vs := [_]) Try.goes44 rfl (collect_str hgo hK hseq) rfl ?_
  rintro _ w1 ⟨ys, a, c, ob, rfl, hP, hO, hG, hw2⟩
  have hG3 := Ge.fresh (Evo.refl [] w) hG
  have hE4 := (Evo.refl [] w).then hw2
  refine wl_val rfl (ex_assign rfl) ?_
  refine wl_nil (nrm_then ?_)
  refine cw_seq ?_
  refine cw_region ?_
  refine wl_val rfl (ex_move rfl) ?_
  refine wl_call1 (vs := [_]) Try.goes45 rfl (sort_str hO (by have := hP.length_eq; omega)) rfl ?_
  rintro _ w5 ⟨rfl, hS, hw6⟩
  have hE7 := hE4.step hw6 hG3.mem
  refine wl_nil (nrm_then ?_)
  refine cw_seq ?_
  refine cw_region ?_
  refine wl_val rfl (ex_move rfl) ?_
  refine wl_val rfl (ex_assign rfl) ?_
  refine wl_nil (nrm_then ?_)
  refine cw_ret (body_ret1 rfl rfl ?_)
  have hl9 : (ssrt ys).length = ys.length := (ssrt_perm ys).length_eq
  exact ⟨ssrt ys, a, c, ob, by rw [hl9], (ssrt_perm ys).trans hP, ssrt_rise (hP.nodup_iff.2 hN), by rw [hl9]; exact hS, hG3, hE7⟩

end Go.Proofs.Ytebghjbfdpeipaa
