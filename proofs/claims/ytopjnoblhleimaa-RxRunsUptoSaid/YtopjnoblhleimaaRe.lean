/- The walk of follow: from one thread to those that take a rune or end, without taking a rune. -/
import Derived.Test.YtopjnoblhleimaaRq
import Derived.Test.YtopjnoblhleimaaRd
namespace Go.Proofs.Ytopjnoblhleimaa
open Go.Proofs
open Go.W
attribute [local irreducible] Decidable.decide
set_option linter.unusedSimpArgs false
set_option linter.unusedVariables false
theorem Try.agg112 : aggB Try.prog 112 = some false := by kernel_rfl
theorem Try.agg117 : aggB Try.prog 117 = some true := by kernel_rfl
theorem Try.agg33 : aggB Try.prog 33 = some false := by kernel_rfl
theorem Try.agg86 : aggB Try.prog 86 = some false := by kernel_rfl
theorem Try.app112_112 : appB Try.prog 112 112 = some (117, 2, 16) := by kernel_rfl
theorem Try.build117 : Build Try.prog 117 #[(0, 1), (1, 1)] #[.int .i64 0, .pointer none] := ⟨_, .agg #[.int .i64 0, .pointer none], Try.underlying117, by kernel_rfl, rfl, fun w => by kernel_rfl⟩
theorem Try.build90 : Build Try.prog 90 #[(0, 1), (1, 1), (2, 1)] #[.int .i64 0, .int .i64 0, .pointer none] := ⟨_, .agg #[.int .i64 0, .int .i64 0, .pointer none], Try.underlying90, by kernel_rfl, rfl, fun w => by kernel_rfl⟩
theorem Try.elem112 : elemB Try.prog 112 = some 2 := by kernel_rfl
theorem Try.fld114_0 : fieldB Try.prog 114 0 = some 0 := by kernel_rfl
theorem Try.fld114_2 : fieldB Try.prog 114 2 = some 5 := by kernel_rfl
theorem Try.fld114_3 : fieldB Try.prog 114 3 = some 6 := by kernel_rfl
theorem Try.fld117_0 : fieldB Try.prog 117 0 = some 0 := by kernel_rfl
theorem Try.fld117_1 : fieldB Try.prog 117 1 = some 1 := by kernel_rfl
theorem Try.goes76 : Goes Try.prog 76 := ⟨_, Try.func76, by kernel_rfl, by kernel_rfl⟩
theorem Try.size112 : sizeB Try.prog 112 = some 1 := by kernel_rfl
theorem Try.size117 : sizeB Try.prog 117 = some 2 := by kernel_rfl
theorem Try.slice112 : sliceB Try.prog 112 = some (117, 2) := by kernel_rfl


structure FG where
  stk : List Th
  kr : List (List Value)
  ka : Option Addr
  kc : Nat
  kob : Option Nat
  sv : Nat → Nat
  ls : List Th
  tr : List (List Value)
  ta : Option Addr
  tn : Nat
  tc : Nat
  tob : Option Nat
  va : Value
  vb : Value
theorem two_flat {kr : List (List Value)} {y z : Int} {v : Value} (hy : 0 ≤ y) (hz : 0 ≤ z) : (kr ++ [[iv (y.toNat : Nat), v]] ++ [[iv (z.toNat : Nat), v]]).flatten = kr.flatten ++ [iv y, v, iv z, v] := by
  rw [Int.toNat_of_nonneg hy, Int.toNat_of_nonneg hz]; simp
theorem one_flat {kr : List (List Value)} {z : Int} {v : Value} (hz : 0 ≤ z) : (kr ++ [[iv (z.toNat : Nat), v]]).flatten = kr.flatten ++ [iv z, v] := by
  rw [Int.toNat_of_nonneg hz]; simp
theorem th_flat {kr : List (List Value)} {i : Nat} {v : Value} : (kr ++ [[iv (i : Nat), v]]).flatten = kr.flatten ++ [iv i, v] := by simp
theorem eps_put {p : Prg} {s : ByteArray} {a i0 : Nat} {t0 : Notes} {V0 : Vis} {ls stk : List Th} {V : Vis} {d : Th} {stk1 : List Th} {V1 : Vis} (h : ∀ Lx V', Eps (mvOf p s) a stk V Lx V' → Eps (mvOf p s) a [(i0, t0)] V0 (ls ++ Lx) V') (k : ∀ Lx V', Eps (mvOf p s) a stk1 V1 Lx V' → Eps (mvOf p s) a stk V (d :: Lx) V') :
    ∀ Lx V', Eps (mvOf p s) a stk1 V1 Lx V' → Eps (mvOf p s) a [(i0, t0)] V0 ((ls ++ [d]) ++ Lx) V' := fun Lx V' e => by
  rw [List.append_assoc]; exact h _ _ (k Lx V' e)


theorem nm2 {b bw : Nat} {ob : Option Nat} (h1 : Apart (some b) (some bw)) (h2 : Apart (some b) ob) : b ∉ bw :: ob.toList := fun h => by
  rcases List.mem_cons.1 h with h | h
  · exact h1 b rfl (by rw [h])
  · exact h2.nmem h
theorem nm3 {o : Option Nat} {bw : Nat} {ob : Option Nat} (h1 : Apart o (some bw)) (h2 : Apart o ob) : ∀ g, o = some g → g ∉ bw :: ob.toList := fun g e => by subst e; exact nm2 h1 h2
theorem ob_or {X : List Nat} {w w1 : World} {ob ob' ob0 : Option Nat} (hob : ob' = ob ∨ ∃ g, ob' = some g ∧ w1.heap.size ≤ g) (he : Evo X w w1) (h : ob = ob0 ∨ Ge w ob) : ob' = ob0 ∨ Ge w ob' := by
  rcases hob with rfl | ⟨g, rfl, hg⟩
  · exact h
  · right; intro g' e; cases e; have := he.size; omega
theorem y0 {w : World} {bm sb b4 kb : Nat} {tob0 : Option Nat} (h1 : Ge w (some b4)) (h2 : Ge w (some kb)) : ∀ y, y ∈ XM bm sb b4 tob0 (some kb) → y ∈ bm :: sb :: tob0.toList ∨ w.heap.size ≤ y := fun y hy => by
  rcases List.mem_cons.1 hy with rfl | hy
  · left; simp
  · rcases List.mem_cons.1 hy with rfl | hy
    · left; simp
    · rcases List.mem_cons.1 hy with rfl | hy
      · right; exact h1 _ rfl
      · rcases List.mem_append.1 hy with h | h
        · left; simp [h]
        · right; simp at h; subst h; exact h2 _ rfl

set_option maxHeartbeats 4000000 in
theorem follow_ok {w : World} {bm sb cs i0 a tn0 tc0 : Nat} {iV v1 v2 v3 nv0 : Value} {t0 : Notes} {tob0 : Option Nat} {ta0 : Option Addr} {p : Prg} {s : ByteArray} {sv0 : Nat → Nat} {tr0 : List (List Value)} {L0 : List Th}
    (hI : RSl 5 RInst (bm :: sb :: tob0.toList) w iV p.insts) (hsp : SoundP p) (hM0 : w.heap[bm]? = some (.cells #[iV, v1, v2, v3, .string s, .slice (some ⟨sb, 0, none⟩) p.insts.length cs, .slice ta0 tn0 tc0] 114 (0, 0)))
    (hSe0 : OwnS w 3 1 (some ⟨sb, 0, none⟩) p.insts.length cs (svc p.insts.length sv0) (some sb)) (hTh0 : OwnS w 117 2 ta0 tn0 tc0 tr0.flatten tob0) (hTr : RowsOk 2 RTh (bm :: sb :: tob0.toList) w tr0 L0) (hN : RNote (bm :: sb :: tob0.toList) w nv0 t0)
    (hi0 : i0 < p.insts.length) (ha : a ≤ s.size) (hs : s.size ≤ 2097152) (hsv : ∀ j, sv0 j ≤ a + 1) (htn : tn0 + us p.insts.length a sv0 ≤ p.insts.length) (hms : Apart (some bm) (some sb)) (hmt0 : Apart (some bm) tob0) (hst0 : Apart (some sb) tob0) :
    Calls Try.prog 63 #[.pointer (some ⟨bm, 0, none⟩), .agg #[iv i0, nv0], iv a] w (Ret fun v w' => ∃ sv ta tn tc tr tob L, v = .tuple #[] ∧ Eps (mvOf p s) a [(i0, t0)] (seenV a sv0) L (seenV a sv) ∧ w'.heap[bm]? = some (.cells #[iV, v1, v2, v3, .string s, .slice (some ⟨sb, 0, none⟩) p.insts.length cs, .slice ta tn tc] 114 (0, 0)) ∧
      OwnS w' 3 1 (some ⟨sb, 0, none⟩) p.insts.length cs (svc p.insts.length sv) (some sb) ∧ OwnS w' 117 2 ta tn tc (List.flatten tr) tob ∧ RowsOk 2 RTh (bm :: sb :: tob.toList) w' tr (L0 ++ L) ∧ (∀ j, sv j ≤ a + 1) ∧ tn + us p.insts.length a sv ≤ p.insts.length ∧ Apart (some bm) tob ∧ Apart (some sb) tob ∧ (tob = tob0 ∨ Ge w tob) ∧ Evo (bm :: sb :: tob0.toList) w w') := by
  have hI0 := hI
  obtain ⟨a3, c3, rfl, hl3, e3⟩ := hI
  obtain ⟨hh1, hh2, hh3, hh4, hh5, hh6, hh7⟩ := hsp.1
  have hnv0 := hN.one
  refine calls_of_cw (N := 110) Try.func63 rfl rfl rfl ?_
  refine cw_seq ?_
  refine cw_region ?_
  refine wl_boxA rfl rfl fun bt w1 hB2 hs3 hw4 => ?_
  have hA5 := Apart.new (Lt.blk hM0) hs3
  have hA6 := Apart.new (Lt.own hSe0) hs3
  have hA7 := Apart.new (Lt.own hTh0) hs3
  have hG8 := Ge.new (Evo.refl (bm :: sb :: tob0.toList) w) hs3
  have hE9 := (Evo.refl (bm :: sb :: tob0.toList) w).then hw4
  have hB10 := hw4.blk0 hM0
  have hO11 := hSe0.evo0 hw4
  have hO12 := hTh0.evo0 hw4
  refine wl_nil (nrm_then ?_)
  refine cw_seq ?_
  refine cw_region ?_
  refine wl_val rfl (ex_loadBlk rfl Try.agg117 Try.size117 hB2 rfl) ?_
  refine wl_bslice (vs := [_]) rfl Try.slice112 rfl rfl rfl rfl fun b13 w14 hO15 hs16 hw17 => ?_
  have hA18 := Apart.new (Lt.blk hB10) hs16
  have hA19 := Apart.new (Lt.own hO11) hs16
  have hA20 := Apart.new (Lt.own hO12) hs16
  have hA21 := Apart.new (Lt.blk hB2) hs16
  have hG22 := Ge.new hE9 hs16
  have hE23 := hE9.then hw17
  have hB24 := hw17.blk0 hB10
  have hO25 := hO11.evo0 hw17
  have hO26 := hO12.evo0 hw17
  have hB27 := hw17.blk0 hB2
  refine wl_val rfl (ex_assign rfl) ?_
  refine wl_nil (nrm_then ?_)
  refine cw_block ?_
  refine cw_loop (α := FG) (⟨[(i0, t0)], [[iv i0, nv0]], some ⟨b13, 0, none⟩, 1, some b13, sv0, [], tr0, ta0, tn0, tc0, tob0, iv i0, nv0⟩) (fun x => [(6, .slice x.ka x.stk.length x.kc)]) [(0, _), (2, _), (4, _)] (fun x wr => Evo (bm :: sb :: tob0.toList) w wr ∧ (OwnS wr 117 2 x.ka x.stk.length x.kc x.kr.flatten x.kob ∧ RowsOk 2 RTh (XM bm sb bt x.tob x.kob) wr x.kr x.stk.reverse ∧ OwnS wr 3 1 (some ⟨sb, 0, none⟩) p.insts.length cs (svc p.insts.length x.sv) (some sb) ∧ OwnS wr 117 2 x.ta x.tn x.tc x.tr.flatten x.tob ∧ RowsOk 2 RTh (XM bm sb bt x.tob x.kob) wr x.tr (L0 ++ x.ls) ∧ wr.heap[bm]? = some (.cells #[.slice a3 p.insts.length c3, v1, v2, v3, .string s, .slice (some ⟨sb, 0, none⟩) p.insts.length cs, .slice x.ta x.tn x.tc] 114 (0, 0)) ∧ wr.heap[bt]? = some (.cells #[x.va, x.vb] 117 (0, 0)) ∧ (∀ d, d ∈ x.stk → d.1 < p.insts.length) ∧ 3 * us p.insts.length a x.sv + x.stk.length ≤ 3 * p.insts.length + 1 ∧ x.tn + us p.insts.length a x.sv ≤ p.insts.length ∧ (∀ j, x.sv j ≤ a + 1) ∧ (∀ Lx V', Eps (mvOf p s) a x.stk (seenV a x.sv) Lx V' → Eps (mvOf p s) a [(i0, t0)] (seenV a sv0) (x.ls ++ Lx) V') ∧ Apart (some bm) x.tob ∧ Apart (some sb) x.tob ∧ Apart (some bt) x.tob ∧ Apart (some bm) x.kob ∧ Apart (some sb) x.kob ∧ Apart (some bt) x.kob ∧ Apart x.tob x.kob ∧ Ge w x.kob ∧ (∀ y, y ∈ x.tob.toList → y ∈ (bm :: sb :: tob0.toList) ∨ w.heap.size ≤ y) ∧ (x.tob = tob0 ∨ Ge w x.tob))) (fun x => 3 * us p.insts.length a x.sv + x.stk.length) ⟨rfl, trivial⟩ ⟨rfl, rfl, rfl, trivial⟩ ⟨hE23, ⟨hO15, RowsOk.snoc (rows := []) (ds := []) (RowsOk.nil _ _ _ _) rfl ⟨nv0, rfl, hN.step hE23 (y0 hG8 hG22)⟩, hO25, hO26, by rw [List.append_nil]; exact rows_step hTr hE23 (y0 hG8 hG22), hB24, hB27, by simpa using hi0, by have := us_le p.insts.length a sv0; simp only [List.length_cons, List.length_nil]; omega, htn, hsv, fun _ _ h => by simpa using h, hmt0, hst0, hA7.symm, hA18, hA19, hA21, hA20, hG22, fun y hy => .inl (List.mem_cons_of_mem _ (List.mem_cons_of_mem _ hy)), .inl rfl⟩⟩ ?_
  rintro ⟨stk, kr, ka, kc, kob, sv, ls, tr, ta, tn, tc, tob, va, vb⟩ wr28 ⟨hV29, ⟨hK, hKr, hSe, hTh, hTr, hM, hB, hsn, hm, htn, hsv, hE, hmt, hst, hbt, hmk, hsk, hbk, htk, hgk, hto, hto2⟩⟩
  show CW _ _ _ _ [(6, .slice ka stk.length kc), (0, _), (2, _), (4, _)] _
  try dsimp only at hK
  try dsimp only at hKr
  try dsimp only at hSe
  try dsimp only at hTh
  try dsimp only at hTr
  try dsimp only at hM
  try dsimp only at hB
  try dsimp only at hsn
  try dsimp only at hm
  try dsimp only at htn
  try dsimp only at hsv
  try dsimp only at hE
  try dsimp only at hmt
  try dsimp only at hst
  try dsimp only at hbt
  try dsimp only at hmk
  try dsimp only at hsk
  try dsimp only at hbk
  try dsimp only at htk
  try dsimp only at hgk
  try dsimp only at hto
  try dsimp only at hto2
  have hE30 := Evo.refl (XM bm sb bt tob kob) wr28
  refine cw_seq ?_
  refine cw_seq ?_
  refine cw_region ?_
  refine wl_val rfl (ex_move rfl) ?_
  refine wl_val rfl (ex_len_slice rfl Try.underlying112 rfl) ?_
  refine wl_val rfl (ex_gtr rfl rfl) ?_
  refine wl_nil (nrm_then ?_)
  refine cw_if rfl (fun hc12 => ?_) (fun hc12 => ?_)
  · skip
    obtain ⟨⟨i, t⟩, stk1, rfl⟩ := List.exists_cons_of_length_pos (by omega : 0 < stk.length)
    have hfl : ((i, t) :: stk1).length = stk1.length + 1 := rfl
    have hi : i < p.insts.length := hsn (i, t) (by simp)
    rw [List.reverse_cons] at hKr
    obtain ⟨kr1, nv, hkr, hKr1, hNv⟩ := rows_last hKr
    dsimp only at hkr hNv
    subst hkr
    obtain ⟨q, rfl⟩ := hNv.ptr
    have hK1 := hK
    rw [th_flat] at hK1
    obtain ⟨gk, ek, ek2, hck⟩ := OwnS.top (m := stk1.length) (r := [iv i, (.pointer q)]) hK1 rfl
    subst ek ek2
    refine cw_skip (nrm_then ?_)
    refine cw_block ?_
    refine cw_seq ?_
    refine cw_region ?_
    refine wl_val rfl (ex_move rfl) ?_
    refine wl_val rfl (ex_move rfl) ?_
    refine wl_val rfl (ex_len_slice rfl Try.underlying112 rfl) ?_
    refine wl_val rfl (ex_sub_i64 rfl rfl (by omega) (by omega)) ?_
    refine wl_val rfl (ex_indexAddrZ (n := stk1.length) rfl rfl (by omega) Try.elem112 (by omega)) ?_
    refine wl_val rfl (ex_loadA rfl Try.agg117 Try.size117 (vs := [iv i, .pointer q]) rfl hck) ?_
    refine wl_storeBlk rfl rfl Try.size117 hB rfl rfl ⟨by first | rfl | assumption, by first | rfl | assumption, trivial⟩ fun w31 hB32 hw33 => ?_
    have hE34 := hV29.step hw33 hG8.mem1
    have hE35 := hE30.step hw33 (fun y hy => .inl (by simp at hy; simp [XM, hy]))
    have hB36 := hw33.blk hM hA5.nmem1
    have hO37 := hSe.evo hw33 hA6.own1
    have hO38 := hTh.evo hw33 hbt.symm.own1
    have hO39 := hK.evo hw33 hbk.symm.own1
    try simp only [List.setIfInBounds_toArray, List.set_cons_zero, List.set_cons_succ, Nat.reduceAdd, Nat.zero_add, Nat.add_zero] at hB32
    refine wl_nil (nrm_then ?_)
    refine cw_seq ?_
    refine cw_region ?_
    refine wl_val rfl (ex_move rfl) ?_
    refine wl_val rfl (ex_move rfl) ?_
    refine wl_val rfl (ex_len_slice rfl Try.underlying112 rfl) ?_
    refine wl_val rfl (ex_sub_i64 rfl rfl (by omega) (by omega)) ?_
    refine wl_val rfl (ex_ownTo (h := stk1.length) hK1 rfl rfl Try.underlying112 Try.size117 (by omega) (by have := hK1.le; omega)) ?_
    have hK2 := OwnS.pop (m := stk1.length) (xs := kr1.flatten) (r := [iv i, (.pointer q)]) (by rw [← th_flat]; exact hO39) rfl
    refine wl_val rfl (ex_assign rfl) ?_
    refine wl_nil (nrm_then ?_)
    refine cw_seq ?_
    refine cw_seq ?_
    refine cw_quiet (by kernel_rfl) (by kernel_rfl) ?_
    refine ql_val rfl (fun _ hq41 => ex_move rfl) ?_
    refine ql_val rfl (fun _ hq41 => ex_nilCheck rfl) ?_
    refine ql_val rfl (fun _ hq41 => ex_fieldAddr rfl Try.fld114_2) ?_
    refine ql_val rfl (fun _ hq41 => ex_load1 rfl Try.agg33 (cell_nth (hq41.blk0 hB36) rfl)) ?_
    refine ql_val rfl (fun _ hq41 => ex_fieldAddr rfl Try.fld117_0) ?_
    refine ql_val rfl (fun _ hq41 => ex_load1 rfl Try.agg3 (cell_nth (hq41.blk0 hB32) rfl)) ?_
    refine ql_val rfl (fun _ hq41 => ex_indexAddr (n := i) rfl rfl Try.elem33 hi) ?_
    refine ql_val rfl (fun _ hq41 => ex_load1 rfl Try.agg3 ((hO37.evo0 hq41).get1 (svc_get hi))) ?_
    refine ql_val rfl (fun _ hq41 => ex_move rfl) ?_
    refine ql_val rfl (fun _ hq41 => ex_add_i64 rfl rfl (by omega) (by omega)) ?_
    refine ql_val rfl (fun _ hq41 => ex_eql rfl rfl) ?_
    refine ql_nil (fun wq40 hq41 => nrm_then ?_)
    have hE42 := hE34.then hq41
    have hE43 := hE35.then hq41
    have hB44 := hq41.blk0 hB36
    have hO45 := hO37.evo0 hq41
    have hO46 := hO38.evo0 hq41
    have hO47 := hK2.evo0 hq41
    have hB48 := hq41.blk0 hB32
    refine cw_if rfl (fun hc34 => ?_) (fun hc34 => ?_)
    · skip
      refine cw_exit (ex_then (ex_here (nrm_then ?_)))
      refine ⟨⟨stk1, kr1, some ⟨gk, 0, none⟩, kc, some gk, sv, ls, tr, ta, tn, tc, tob, iv i, (.pointer q)⟩, ?_, ⟨rfl, trivial⟩, ⟨rfl, rfl, rfl, trivial⟩, hE42, ?_⟩
      · (try dsimp only); first | omega | (simp only [List.length_cons]; omega) | (simp only [List.length_cons] at *; omega)
      · skip
        try dsimp only
        have hxx := xm_to' hE43 (t' := tob) (k' := some gk) (fun y hy => .inl (xm_t y hy)) (fun y hy => .inl (xm_k y hy))
        have hKr3 := rows_step hKr1 hE43 hxx
        have hTr3 := rows_step hTr hE43 hxx
        have hNv3 := hNv.step hE43 hxx
        refine ⟨hO47, hKr3, hO45, hO46, hTr3, hB44, hB48, fun d hd => hsn d (List.mem_cons_of_mem _ hd), by first | omega | (simp only [List.length_cons] at *; omega), by omega, hsv, fun Lx V' h => hE Lx V' (.seen (by simp only [seenV, decide_eq_true_eq]; omega) h), hmt, hst, hbt, hmk, hsk, hbk, htk, hgk, hto, hto2⟩
    · skip
      have hsn2 : seenV a sv i = false := by simp only [seenV, decide_eq_false_iff_not]; omega
      have hsi := hsp.2 i hi hi
      have hmv := mvOf_at (p := p) (s := s) (a := a) hi
      obtain ⟨bI, oI, vs1, ha1, hx1, -, hc1, hr1⟩ := e3 i hi
      generalize p.insts[i] = ci at hsi hmv hr1
      obtain ⟨hi1, rv1, rfl, hr2⟩ := hr1
      obtain ⟨n1, n2, n3, n4, n5, n6, n7, n8, n9, n10⟩ := hsi.1
      have hci := hi1.len
      have hrv := hr2.one
      refine cw_skip (nrm_then ?_)
      refine cw_seq ?_
      refine cw_any (fun w0 w' => Evo [] w0 w') (by kernel_rfl) (fun w49 hw50 => ?_)
      have hE51 := hE42.then hw50
      have hE52 := hE43.then hw50
      have hB53 := hw50.blk0 hB44
      have hO54 := hO45.evo0 hw50
      have hO55 := hO46.evo0 hw50
      have hO56 := hO47.evo0 hw50
      have hB57 := hw50.blk0 hB48
      refine ae_take 0 rfl (by kernel_rfl) (by kernel_rfl) (by kernel_rfl) rfl (fun _ hS => ex_move rfl) (Evo.refl [] w49) ?_
      refine ae_take 1 rfl (by kernel_rfl) (by kernel_rfl) (by kernel_rfl) rfl (fun _ hS => ex_nilCheck rfl) (Evo.refl [] w49) ?_
      refine ae_take 2 rfl (by kernel_rfl) (by kernel_rfl) (by kernel_rfl) rfl (fun _ hS => ex_fieldAddr rfl Try.fld114_2) (Evo.refl [] w49) ?_
      refine ae_take 3 rfl (by kernel_rfl) (by kernel_rfl) (by kernel_rfl) rfl (fun _ hS => ex_load1 rfl Try.agg33 (cell_nth (hS.blk0 hB53) rfl)) (Evo.refl [] w49) ?_
      refine ae_take 4 rfl (by kernel_rfl) (by kernel_rfl) (by kernel_rfl) rfl (fun _ hS => ex_fieldAddr rfl Try.fld117_0) (Evo.refl [] w49) ?_
      refine ae_take 5 rfl (by kernel_rfl) (by kernel_rfl) (by kernel_rfl) rfl (fun _ hS => ex_load1 rfl Try.agg3 (cell_nth (hS.blk0 hB57) rfl)) (Evo.refl [] w49) ?_
      refine ae_take 6 rfl (by kernel_rfl) (by kernel_rfl) (by kernel_rfl) rfl (fun _ hS => ex_move rfl) (Evo.refl [] w49) ?_
      refine ae_take 7 rfl (by kernel_rfl) (by kernel_rfl) (by kernel_rfl) rfl (fun _ hS => ex_add_i64 rfl rfl (by omega) (by omega)) (Evo.refl [] w49) ?_
      refine ae_take 8 rfl (by kernel_rfl) (by kernel_rfl) (by kernel_rfl) rfl (fun _ hS => ex_indexAddr (n := i) rfl rfl Try.elem33 hi) (Evo.refl [] w49) ?_
      refine ae_loud [9] (by kernel_rfl) rfl ⟨?_, trivial⟩
      refine a_step rfl ?_
      obtain ⟨g67, cur58, hg59, hx60, hcu61, hcs62, -⟩ := hO54.at (by omega)
      cases hx60
      refine wl_store1L rfl rfl (rfl) Try.size3 hcu61 (hO54.inb hcs62 (k := i) (j := 0) (by omega) (by omega) (by omega)) fun w63 hB64 hw65 => ?_
      replace hw65 := evo_ob hg59 hw65
      have hO66 := hO54.set' hg59 hcu61 hB64
      have hE68 := hE51.step hw65 (fun y hy => .inl (by simp at hy; simp [hy]))
      have hE69 := hE52.step hw65 (fun y hy => .inl (by simp at hy; simp [XM, hy]))
      have hB71 := hw65.blk hB53 hms.nmem
      have hO72 := hO55.evo hw65 hst.symm.own
      have hO73 := hO56.evo hw65 hsk.symm.own
      have hB74 := hw65.blk hB57 hA6.symm.nmem
      have hSe2 : OwnS w63 3 1 (some ⟨sb, 0, none⟩) p.insts.length cs ((svc p.insts.length sv).set (0 + i * 1) (iv ((a + 1 : Nat) : Int))) (some sb) := hO66
      rw [show 0 + i * 1 = i by omega, svc_set] at hSe2
      have hum := us_mark (a := a) hi hsn2
      refine wl_nil (ae_next (.inr (by kernel_rfl)) ?_)
      refine ae_done (by kernel_rfl) (nrm_then ?_)
      refine cw_seq ?_
      refine cw_any (fun w0 w' => Evo [] w0 w') (by kernel_rfl) (fun w75 hw76 => ?_)
      have hE77 := hE68.then hw76
      have hE78 := hE69.then hw76
      have hB79 := hw76.blk0 hB71
      have hO80 := hSe2.evo0 hw76
      have hO81 := hO72.evo0 hw76
      have hO82 := hO73.evo0 hw76
      have hB83 := hw76.blk0 hB74
      refine ae_take 0 rfl (by kernel_rfl) (by kernel_rfl) (by kernel_rfl) rfl (fun _ hS => ex_move rfl) (Evo.refl [] w75) ?_
      refine ae_take 1 rfl (by kernel_rfl) (by kernel_rfl) (by kernel_rfl) rfl (fun _ hS => ex_nilCheck rfl) (Evo.refl [] w75) ?_
      refine ae_take 2 rfl (by kernel_rfl) (by kernel_rfl) (by kernel_rfl) rfl (fun _ hS => ex_fieldAddr rfl Try.fld114_0) (Evo.refl [] w75) ?_
      refine ae_take 3 rfl (by kernel_rfl) (by kernel_rfl) (by kernel_rfl) rfl (fun _ hS => ex_fieldAddr rfl Try.fld25_0) (Evo.refl [] w75) ?_
      refine ae_take 4 rfl (by kernel_rfl) (by kernel_rfl) (by kernel_rfl) rfl (fun _ hS => ex_load1 rfl Try.agg22 (cell_nth (hS.blk0 hB79) rfl)) (Evo.refl [] w75) ?_
      refine ae_take 5 rfl (by kernel_rfl) (by kernel_rfl) (by kernel_rfl) rfl (fun _ hS => ex_fieldAddr rfl Try.fld117_0) (Evo.refl [] w75) ?_
      refine ae_take 6 rfl (by kernel_rfl) (by kernel_rfl) (by kernel_rfl) rfl (fun _ hS => ex_load1 rfl Try.agg3 (cell_nth (hS.blk0 hB83) rfl)) (Evo.refl [] w75) ?_
      refine ae_take 7 rfl (by kernel_rfl) (by kernel_rfl) (by kernel_rfl) rfl (fun _ hS => ex_indexAddr (n := i) (by rw [ha1]; rfl) rfl Try.elem22 hi) (Evo.refl [] w75) ?_
      refine ae_take 8 rfl (by kernel_rfl) (by kernel_rfl) (by kernel_rfl) rfl (fun _ hS => ex_loadA rfl Try.agg29 Try.size29 (vs := [_, _, _, _, _]) rfl (hc1.evo (hE77.then hS) hx1)) (Evo.refl [] w75) ?_
      refine ae_loud [9] (by kernel_rfl) rfl ⟨?_, trivial⟩
      refine a_step rfl ?_
      refine wl_alloc rfl Try.zero29 fun b84 w85 hB86 hs87 hw88 => ?_
      have hA89 := Apart.new (Lt.blk hB79) hs87
      have hA90 := Apart.new (Lt.own hO80) hs87
      have hA91 := Apart.new (Lt.own hO81) hs87
      have hA92 := Apart.new (Lt.own hO82) hs87
      have hA93 := Apart.new (Lt.blk hB83) hs87
      have hG94 := Ge.new hE77 hs87
      have hG95 := Ge.new hE78 hs87
      have hG96 := Ge.new (Evo.refl [] w75) hs87
      have hE97 := hE77.then hw88
      have hE98 := hE78.then hw88
      have hE99 := (Evo.refl [] w75).then hw88
      have hB100 := hw88.blk0 hB79
      have hO101 := hO80.evo0 hw88
      have hO102 := hO81.evo0 hw88
      have hO103 := hO82.evo0 hw88
      have hB104 := hw88.blk0 hB83
      refine wl_nil (ae_next (.inl hE99) ?_)
      refine ae_loud [10] (by kernel_rfl) rfl ⟨?_, trivial⟩
      refine a_step rfl ?_
      refine wl_storeBlk rfl rfl Try.size29 hB86 rfl rfl ⟨by first | rfl | assumption, by first | rfl | assumption, by first | rfl | assumption, by first | rfl | assumption, by first | rfl | assumption, trivial⟩ fun w105 hB106 hw107 => ?_
      have hE108 := hE97.step hw107 hG94.mem1
      have hE109 := hE98.step hw107 hG95.mem1
      have hE110 := hE99.step hw107 hG96.mem1
      have hB111 := hw107.blk hB100 hA89.nmem1
      have hO112 := hO101.evo hw107 hA90.own1
      have hO113 := hO102.evo hw107 hA91.own1
      have hO114 := hO103.evo hw107 hA92.own1
      have hB115 := hw107.blk hB104 hA93.nmem1
      try simp only [List.setIfInBounds_toArray, List.set_cons_zero, List.set_cons_succ, Nat.reduceAdd, Nat.zero_add, Nat.add_zero] at hB106
      refine wl_nil (ae_next (.inr (by kernel_rfl)) ?_)
      refine ae_done (by kernel_rfl) (nrm_then ?_)
      refine cw_seq ?_
      refine cw_region ?_
      refine wl_val rfl (ex_fieldAddr rfl Try.fld29_0) ?_
      refine wl_val rfl (ex_load1 rfl Try.agg3 (cell_nth hB106 rfl)) ?_
      refine wl_nil (nrm_then ?_)
      refine cw_block ?_
      refine cw_seq ?_
      refine cw_cut (α := Bool) (fun x => [(67, .bool x)]) [(0, _), (2, _), (4, _), (6, _), (7, _), (54, _)] (fun x wr => Evo [] w105 wr ∧ (x = true ↔ (ci.op = 1 ∨ ci.op = 2))) ⟨rfl, rfl, rfl, rfl, rfl, rfl, trivial⟩ ?_ ?_
      · skip
        refine cw_seq ?_
        refine cw_region ?_
        refine wl_val rfl (ex_eql rfl rfl) ?_
        refine wl_val rfl (ex_assign rfl) ?_
        refine wl_nil (nrm_then ?_)
        refine cw_if rfl (fun hc67 => ?_) (fun hc67 => ?_)
        · skip
          refine cw_skip (nrm_then ?_)
          refine ⟨_, ⟨rfl, trivial⟩, ⟨rfl, rfl, rfl, rfl, rfl, rfl, trivial⟩, (Evo.refl [] w105), ?_⟩
          simp only [decide_eq_true_eq]; omega
        · skip
          refine cw_region ?_
          refine wl_val rfl (ex_eql rfl rfl) ?_
          refine wl_val rfl (ex_assign rfl) ?_
          refine wl_nil (nrm_then ?_)
          refine ⟨_, ⟨rfl, trivial⟩, ⟨rfl, rfl, rfl, rfl, rfl, rfl, trivial⟩, (Evo.refl [] w105), ?_⟩
          simp only [decide_eq_true_eq]; omega
      · skip
        rintro lf w116 ⟨hV117, hlf2⟩
        refine nrm_then ?_
        show CW _ _ _ _ [(67, _), (0, _), (2, _), (4, _), (6, _), (7, _), (54, _)] _
        have hE118 := hE108.then hV117
        have hE119 := hE109.then hV117
        have hB120 := hV117.blk0 hB111
        have hO121 := hO112.evo0 hV117
        have hO122 := hO113.evo0 hV117
        have hO123 := hO114.evo0 hV117
        have hB124 := hV117.blk0 hB115
        have hB125 := hV117.blk0 hB106
        refine cw_ifb rfl (fun hc67 => ?_) (fun hc67 => ?_)
        · skip
          subst hc67
          have hlf3 := hlf2.1 rfl
          refine cw_any (fun w0 w' => Evo (bm :: tob.toList) w0 w') (by kernel_rfl) (fun w126 hw127 => ?_)
          have hE128 := hE118.then hw127
          have hE129 := hE119.then hw127
          have hB130 := hw127.blk0 hB120
          have hO131 := hO121.evo0 hw127
          have hO132 := hO122.evo0 hw127
          have hO133 := hO123.evo0 hw127
          have hB134 := hw127.blk0 hB124
          have hB135 := hw127.blk0 hB125
          refine ae_take 0 rfl (by kernel_rfl) (by kernel_rfl) (by kernel_rfl) rfl (fun _ hS => ex_move rfl) (Evo.refl (bm :: tob.toList) w126) ?_
          refine ae_take 1 rfl (by kernel_rfl) (by kernel_rfl) (by kernel_rfl) rfl (fun _ hS => ex_move rfl) (Evo.refl (bm :: tob.toList) w126) ?_
          refine ae_take 2 rfl (by kernel_rfl) (by kernel_rfl) (by kernel_rfl) rfl (fun _ hS => ex_nilCheck rfl) (Evo.refl (bm :: tob.toList) w126) ?_
          refine ae_take 3 rfl (by kernel_rfl) (by kernel_rfl) (by kernel_rfl) rfl (fun _ hS => ex_fieldAddr rfl Try.fld114_3) (Evo.refl (bm :: tob.toList) w126) ?_
          refine ae_take 5 rfl (by kernel_rfl) (by kernel_rfl) (by kernel_rfl) rfl (fun _ hS => ex_loadBlk rfl Try.agg117 Try.size117 (hS.blk hB134 (nm2 hA5.symm hbt)) rfl) (Evo.refl (bm :: tob.toList) w126) ?_
          refine ae_loud [4, 6] (by kernel_rfl) rfl ⟨?_, ?_, trivial⟩
          · skip
            refine a_step rfl ?_
            refine wl_val rfl (ex_load1 rfl Try.agg112 (cell_nth hB130 rfl)) ?_
            refine wl_nil (ae_next (.inl (Evo.refl (bm :: tob.toList) w126)) ?_)
            refine ae_loud [6] (by kernel_rfl) rfl ⟨?_, trivial⟩
            refine a_step rfl ?_
            refine wl_bslice (vs := [_]) rfl Try.slice112 rfl rfl rfl rfl fun b136 w137 hO138 hs139 hw140 => ?_
            have hA141 := Apart.new (Lt.blk hB130) hs139
            have hA142 := Apart.new (Lt.own hO131) hs139
            have hA143 := Apart.new (Lt.own hO132) hs139
            have hA144 := Apart.new (Lt.own hO133) hs139
            have hA145 := Apart.new (Lt.blk hB134) hs139
            have hA146 := Apart.new (Lt.blk hB135) hs139
            have hG147 := Ge.new hE128 hs139
            have hG148 := Ge.new hE129 hs139
            have hG149 := Ge.new (Evo.refl (bm :: tob.toList) w126) hs139
            have hE150 := hE128.then hw140
            have hE151 := hE129.then hw140
            have hE152 := (Evo.refl (bm :: tob.toList) w126).then hw140
            have hB153 := hw140.blk0 hB130
            have hO154 := hO131.evo0 hw140
            have hO155 := hO132.evo0 hw140
            have hO156 := hO133.evo0 hw140
            have hB157 := hw140.blk0 hB134
            have hB158 := hw140.blk0 hB135
            refine wl_nil (ae_next (.inl hE152) ?_)
            refine ae_loud [7] (by kernel_rfl) rfl ⟨?_, trivial⟩
            refine a_step rfl ?_
            refine wl_append rfl rfl rfl rfl Try.app112_112 hO155 (Src.ofOwn hO138 ⟨by first | rfl | assumption, by first | rfl | assumption, trivial⟩) (by omega) fun ta1 tc1 w161 obt hTa hw164 hob165 => ?_
            have hA166 := hmt.app (Lt.blk hB153) hob165
            have hA167 := hst.app (Lt.own hO154) hob165
            have hA168 := htk.symm.app (Lt.own hO156) hob165
            have hA169 := hbt.app (Lt.blk hB157) hob165
            have hA170 := hA91.symm.app (Lt.blk hB158) hob165
            have hA171 := hA143.symm.app (Lt.own hO138) hob165
            have hE172 := hE150.step hw164 (hto)
            have hE173 := hE151.step hw164 (fun y hy => .inl (xm_t y hy))
            have hE174 := hE152.step hw164 (fun y hy => .inl (List.mem_cons_of_mem _ hy))
            have hB175 := hw164.blk hB153 hmt.nmem
            have hO176 := hO154.evo hw164 hst.own
            have hO177 := hO156.evo hw164 htk.symm.own
            have hB178 := hw164.blk hB157 hbt.nmem
            have hB179 := hw164.blk hB158 hA91.symm.nmem
            have hO180 := hO138.evo hw164 hA143.symm.own
            have hobt := hob165
            have hpreT := hE151
            have hpreW := hE150
            refine wl_nil (ae_next (.inl hE174) ?_)
            refine ae_take 8 rfl (by kernel_rfl) (by kernel_rfl) (by kernel_rfl) rfl (fun _ hS => ex_nilCheck rfl) hE174 ?_
            refine ae_take 9 rfl (by kernel_rfl) (by kernel_rfl) (by kernel_rfl) rfl (fun _ hS => ex_fieldAddr rfl Try.fld114_3) hE174 ?_
            refine ae_loud [10] (by kernel_rfl) rfl ⟨?_, trivial⟩
            refine a_step rfl ?_
            refine wl_store1 rfl rfl (by first | rfl | assumption) Try.size112 hB175 rfl fun w181 hB182 hw183 => ?_
            have hE184 := hE172.step hw183 (fun y hy => .inl (by simp at hy; simp [hy]))
            have hE185 := hE173.step hw183 (fun y hy => .inl (by simp at hy; simp [XM, hy]))
            have hE186 := hE174.step hw183 (fun y hy => .inl (by simp at hy; simp [hy]))
            have hO187 := hO176.evo hw183 hms.symm.own1
            have hO188 := hO177.evo hw183 hmk.symm.own1
            have hB189 := hw183.blk hB178 hA5.symm.nmem1
            have hB190 := hw183.blk hB179 hA89.symm.nmem1
            have hO191 := hO180.evo hw183 hA141.symm.own1
            have hO192 := hTa.evo hw183 hA166.symm.own1
            try simp only [List.setIfInBounds_toArray, List.set_cons_zero, List.set_cons_succ, Nat.reduceAdd, Nat.zero_add, Nat.add_zero] at hB182
            refine wl_nil (ae_next (.inl hE186) ?_)
            refine ae_done (by kernel_rfl) (nrm_block (nrm_block (nrm_then ?_)))
            refine ⟨⟨stk1, kr1, some ⟨gk, 0, none⟩, kc, some gk, (mark sv i (a + 1)), ls ++ [(i, t)], tr ++ [[iv i, (.pointer q)]], ta1, tn + 1, tc1, obt, iv i, (.pointer q)⟩, ?_, ⟨rfl, trivial⟩, ⟨rfl, rfl, rfl, trivial⟩, hE184, ?_⟩
            · (try dsimp only); first | omega | (simp only [List.length_cons]; omega) | (simp only [List.length_cons] at *; omega)
            · skip
              try dsimp only
              have hxx := xm_to' hE185 (t' := obt) (k' := some gk) (ob_in hobt hpreT xm_t) (fun y hy => .inl (xm_k y hy))
              have hKr3 := rows_step hKr1 hE185 hxx
              have hTr3 := rows_step hTr hE185 hxx
              have hNv3 := hNv.step hE185 hxx
              refine ⟨hO188, hKr3, hO187, (by rw [th_flat]; exact hO192), (by rw [← List.append_assoc]; exact hTr3.snoc rfl ⟨(.pointer q), rfl, hNv3⟩), hB182, hB189, fun d hd => hsn d (List.mem_cons_of_mem _ hd), by first | omega | (simp only [List.length_cons] at *; omega), by omega, (mark_le hsv), eps_put hE (fun Lx V' h => .leaf hsn2 (by rw [hmv]; unfold mvI; rcases hlf3 with h1 | h1 <;> simp [h1, Mv.leaf]) (by rw [← seen_mark]; exact h)), hA166, hA167, hA169, hmk, hsk, hbk, hA168.symm, hgk, ob_in2 hobt hpreW hto, ob_or hobt hpreW hto2⟩
          · skip
            refine a_step rfl ?_
            refine wl_bslice (vs := [_]) rfl Try.slice112 rfl rfl rfl rfl fun b193 w194 hO195 hs196 hw197 => ?_
            have hA198 := Apart.new (Lt.blk hB130) hs196
            have hA199 := Apart.new (Lt.own hO131) hs196
            have hA200 := Apart.new (Lt.own hO132) hs196
            have hA201 := Apart.new (Lt.own hO133) hs196
            have hA202 := Apart.new (Lt.blk hB134) hs196
            have hA203 := Apart.new (Lt.blk hB135) hs196
            have hG204 := Ge.new hE128 hs196
            have hG205 := Ge.new hE129 hs196
            have hG206 := Ge.new (Evo.refl (bm :: tob.toList) w126) hs196
            have hE207 := hE128.then hw197
            have hE208 := hE129.then hw197
            have hE209 := (Evo.refl (bm :: tob.toList) w126).then hw197
            have hB210 := hw197.blk0 hB130
            have hO211 := hO131.evo0 hw197
            have hO212 := hO132.evo0 hw197
            have hO213 := hO133.evo0 hw197
            have hB214 := hw197.blk0 hB134
            have hB215 := hw197.blk0 hB135
            refine wl_nil (ae_next (.inl hE209) ?_)
            refine ae_loud [4] (by kernel_rfl) rfl ⟨?_, trivial⟩
            refine a_step rfl ?_
            refine wl_val rfl (ex_load1 rfl Try.agg112 (cell_nth hB210 rfl)) ?_
            refine wl_nil (ae_next (.inl hE209) ?_)
            refine ae_loud [7] (by kernel_rfl) rfl ⟨?_, trivial⟩
            refine a_step rfl ?_
            refine wl_append rfl rfl rfl rfl Try.app112_112 hO212 (Src.ofOwn hO195 ⟨by first | rfl | assumption, by first | rfl | assumption, trivial⟩) (by omega) fun ta1 tc1 w218 obt hTa hw221 hob222 => ?_
            have hA223 := hmt.app (Lt.blk hB210) hob222
            have hA224 := hst.app (Lt.own hO211) hob222
            have hA225 := htk.symm.app (Lt.own hO213) hob222
            have hA226 := hbt.app (Lt.blk hB214) hob222
            have hA227 := hA91.symm.app (Lt.blk hB215) hob222
            have hA228 := hA200.symm.app (Lt.own hO195) hob222
            have hE229 := hE207.step hw221 (hto)
            have hE230 := hE208.step hw221 (fun y hy => .inl (xm_t y hy))
            have hE231 := hE209.step hw221 (fun y hy => .inl (List.mem_cons_of_mem _ hy))
            have hB232 := hw221.blk hB210 hmt.nmem
            have hO233 := hO211.evo hw221 hst.own
            have hO234 := hO213.evo hw221 htk.symm.own
            have hB235 := hw221.blk hB214 hbt.nmem
            have hB236 := hw221.blk hB215 hA91.symm.nmem
            have hO237 := hO195.evo hw221 hA200.symm.own
            have hobt := hob222
            have hpreT := hE208
            have hpreW := hE207
            refine wl_nil (ae_next (.inl hE231) ?_)
            refine ae_take 8 rfl (by kernel_rfl) (by kernel_rfl) (by kernel_rfl) rfl (fun _ hS => ex_nilCheck rfl) hE231 ?_
            refine ae_take 9 rfl (by kernel_rfl) (by kernel_rfl) (by kernel_rfl) rfl (fun _ hS => ex_fieldAddr rfl Try.fld114_3) hE231 ?_
            refine ae_loud [10] (by kernel_rfl) rfl ⟨?_, trivial⟩
            refine a_step rfl ?_
            refine wl_store1 rfl rfl (by first | rfl | assumption) Try.size112 hB232 rfl fun w238 hB239 hw240 => ?_
            have hE241 := hE229.step hw240 (fun y hy => .inl (by simp at hy; simp [hy]))
            have hE242 := hE230.step hw240 (fun y hy => .inl (by simp at hy; simp [XM, hy]))
            have hE243 := hE231.step hw240 (fun y hy => .inl (by simp at hy; simp [hy]))
            have hO244 := hO233.evo hw240 hms.symm.own1
            have hO245 := hO234.evo hw240 hmk.symm.own1
            have hB246 := hw240.blk hB235 hA5.symm.nmem1
            have hB247 := hw240.blk hB236 hA89.symm.nmem1
            have hO248 := hO237.evo hw240 hA198.symm.own1
            have hO249 := hTa.evo hw240 hA223.symm.own1
            try simp only [List.setIfInBounds_toArray, List.set_cons_zero, List.set_cons_succ, Nat.reduceAdd, Nat.zero_add, Nat.add_zero] at hB239
            refine wl_nil (ae_next (.inl hE243) ?_)
            refine ae_done (by kernel_rfl) (nrm_block (nrm_block (nrm_then ?_)))
            refine ⟨⟨stk1, kr1, some ⟨gk, 0, none⟩, kc, some gk, (mark sv i (a + 1)), ls ++ [(i, t)], tr ++ [[iv i, (.pointer q)]], ta1, tn + 1, tc1, obt, iv i, (.pointer q)⟩, ?_, ⟨rfl, trivial⟩, ⟨rfl, rfl, rfl, trivial⟩, hE241, ?_⟩
            · (try dsimp only); first | omega | (simp only [List.length_cons]; omega) | (simp only [List.length_cons] at *; omega)
            · skip
              try dsimp only
              have hxx := xm_to' hE242 (t' := obt) (k' := some gk) (ob_in hobt hpreT xm_t) (fun y hy => .inl (xm_k y hy))
              have hKr3 := rows_step hKr1 hE242 hxx
              have hTr3 := rows_step hTr hE242 hxx
              have hNv3 := hNv.step hE242 hxx
              refine ⟨hO245, hKr3, hO244, (by rw [th_flat]; exact hO249), (by rw [← List.append_assoc]; exact hTr3.snoc rfl ⟨(.pointer q), rfl, hNv3⟩), hB239, hB246, fun d hd => hsn d (List.mem_cons_of_mem _ hd), by first | omega | (simp only [List.length_cons] at *; omega), by omega, (mark_le hsv), eps_put hE (fun Lx V' h => .leaf hsn2 (by rw [hmv]; unfold mvI; rcases hlf3 with h1 | h1 <;> simp [h1, Mv.leaf]) (by rw [← seen_mark]; exact h)), hA223, hA224, hA226, hmk, hsk, hbk, hA225.symm, hgk, ob_in2 hobt hpreW hto, ob_or hobt hpreW hto2⟩
        · skip
          subst hc67
          have hlf3 : ¬ (ci.op = 1 ∨ ci.op = 2) := fun h => by have := hlf2.2 h; cases this
          refine cw_seq ?_
          refine cw_region ?_
          refine wl_val rfl (ex_eql rfl rfl) ?_
          refine wl_val rfl (ex_assign rfl) ?_
          refine wl_nil (nrm_then ?_)
          refine cw_if rfl (fun hc80 => ?_) (fun hc80 => ?_)
          · skip
            have hout : 0 ≤ ci.out ∧ ci.out < p.insts.length := n4 (by omega)
            have halt := n5 hc80
            refine cw_region ?_
            refine wl_val rfl (ex_move rfl) ?_
            refine wl_val rfl (ex_fieldAddr rfl Try.fld29_2) ?_
            refine wl_val rfl (ex_load1 rfl Try.agg3 (cell_nth hB125 rfl)) ?_
            refine wl_val rfl (ex_fieldAddr rfl Try.fld117_1) ?_
            refine wl_val rfl (ex_load1 rfl Try.agg86 (cell_nth hB124 rfl)) ?_
            refine wl_val rfl (ex_build (vs := [(0, _), (1, _)]) Try.build117 rfl (cells := [_, _]) rfl) ?_
            refine wl_val rfl (ex_fieldAddr rfl Try.fld29_1) ?_
            refine wl_val rfl (ex_load1 rfl Try.agg3 (cell_nth hB125 rfl)) ?_
            refine wl_val rfl (ex_fieldAddr rfl Try.fld117_1) ?_
            refine wl_val rfl (ex_load1 rfl Try.agg86 (cell_nth hB124 rfl)) ?_
            refine wl_val rfl (ex_build (vs := [(0, _), (1, _)]) Try.build117 rfl (cells := [_, _]) rfl) ?_
            refine wl_bslice (vs := [_, _]) rfl Try.slice112 rfl rfl rfl rfl fun b250 w251 hO252 hs253 hw254 => ?_
            have hA255 := Apart.new (Lt.blk hB120) hs253
            have hA256 := Apart.new (Lt.own hO121) hs253
            have hA257 := Apart.new (Lt.own hO122) hs253
            have hA258 := Apart.new (Lt.own hO123) hs253
            have hA259 := Apart.new (Lt.blk hB124) hs253
            have hA260 := Apart.new (Lt.blk hB125) hs253
            have hG261 := Ge.new hE118 hs253
            have hG262 := Ge.new hE119 hs253
            have hE263 := hE118.then hw254
            have hE264 := hE119.then hw254
            have hB265 := hw254.blk0 hB120
            have hO266 := hO121.evo0 hw254
            have hO267 := hO122.evo0 hw254
            have hO268 := hO123.evo0 hw254
            have hB269 := hw254.blk0 hB124
            have hB270 := hw254.blk0 hB125
            refine wl_append rfl rfl rfl rfl Try.app112_112 hO268 (Src.ofOwn hO252 ⟨rfl, rfl, rfl, rfl, trivial⟩) (by omega) fun ka1 kc1 w273 obk hKa hw276 hob277 => ?_
            have hA278 := hmk.app (Lt.blk hB265) hob277
            have hA279 := hsk.app (Lt.own hO266) hob277
            have hA280 := htk.app (Lt.own hO267) hob277
            have hA281 := hbk.app (Lt.blk hB269) hob277
            have hA282 := hA92.symm.app (Lt.blk hB270) hob277
            have hA283 := hA258.symm.app (Lt.own hO252) hob277
            have hG284 := hgk.app hE263 hob277
            have hE285 := hE263.step hw276 hgk.mem
            have hE286 := hE264.step hw276 (fun y hy => .inl (xm_k y hy))
            have hB287 := hw276.blk hB265 hmk.nmem
            have hO288 := hO266.evo hw276 hsk.own
            have hO289 := hO267.evo hw276 htk.own
            have hB290 := hw276.blk hB269 hbk.nmem
            have hB291 := hw276.blk hB270 hA92.symm.nmem
            have hO292 := hO252.evo hw276 hA258.symm.own
            have hobk := hob277
            have hpreK := hE264
            refine wl_val rfl (ex_assign rfl) ?_
            refine wl_nil (nrm_block (nrm_block (nrm_then ?_)))
            refine ⟨⟨(ci.out.toNat, t) :: (ci.alt.toNat, t) :: stk1, kr1 ++ [[iv (ci.alt.toNat : Nat), (.pointer q)]] ++ [[iv (ci.out.toNat : Nat), (.pointer q)]], ka1, kc1, obk, (mark sv i (a + 1)), ls, tr, ta, tn, tc, tob, iv i, (.pointer q)⟩, ?_, ⟨rfl, trivial⟩, ⟨rfl, rfl, rfl, trivial⟩, hE285, ?_⟩
            · (try dsimp only); first | omega | (simp only [List.length_cons]; omega) | (simp only [List.length_cons] at *; omega)
            · skip
              try dsimp only
              have hmv2 : mvOf p s a i = .split ci.out.toNat ci.alt.toNat := by rw [hmv]; unfold mvI; rw [if_neg (by omega), if_neg (by omega), if_pos hc80]
              have hxx := xm_to' hE286 (t' := tob) (k' := obk) (fun y hy => .inl (xm_t y hy)) (ob_in hobk hpreK xm_k)
              have hKr3 := rows_step hKr1 hE286 hxx
              have hTr3 := rows_step hTr hE286 hxx
              have hNv3 := hNv.step hE286 hxx
              rw [show (List.reverse ((ci.out.toNat, t) :: (ci.alt.toNat, t) :: stk1)) = stk1.reverse ++ [(ci.alt.toNat, t)] ++ [(ci.out.toNat, t)] from by simp]
              refine ⟨(by rw [two_flat halt.1 hout.1]; exact hKa), (hKr3.snoc (d := (ci.alt.toNat, t)) rfl ⟨(.pointer q), rfl, hNv3⟩).snoc (d := (ci.out.toNat, t)) rfl ⟨(.pointer q), rfl, hNv3⟩, hO288, hO289, hTr3, hB287, hB290, fun d hd => by rcases List.mem_cons.1 hd with rfl | hd; { simp only; omega }; { rcases List.mem_cons.1 hd with rfl | hd; { simp only; omega }; { exact hsn d (List.mem_cons_of_mem _ hd) } }, by first | omega | (simp only [List.length_cons] at *; omega), by omega, (mark_le hsv), fun Lx V' h => hE Lx V' (.split hsn2 hmv2 (by rw [← seen_mark]; exact h)), hmt, hst, hbt, hA278, hA279, hA281, hA280, hG284, hto, hto2⟩
          · skip
            refine cw_seq ?_
            refine cw_region ?_
            refine wl_val rfl (ex_eql rfl rfl) ?_
            refine wl_val rfl (ex_assign rfl) ?_
            refine wl_nil (nrm_then ?_)
            refine cw_if rfl (fun hc95 => ?_) (fun hc95 => ?_)
            · skip
              have hout : 0 ≤ ci.out ∧ ci.out < p.insts.length := n4 (by omega)
              have harg := n7 hc95
              refine cw_region ?_
              refine wl_val rfl (ex_move rfl) ?_
              refine wl_val rfl (ex_fieldAddr rfl Try.fld29_1) ?_
              refine wl_val rfl (ex_load1 rfl Try.agg3 (cell_nth hB125 rfl)) ?_
              refine wl_val rfl (ex_fieldAddr rfl Try.fld29_3) ?_
              refine wl_val rfl (ex_load1 rfl Try.agg3 (cell_nth hB125 rfl)) ?_
              refine wl_val rfl (ex_move rfl) ?_
              refine wl_val rfl (ex_fieldAddr rfl Try.fld117_1) ?_
              refine wl_val rfl (ex_load1 rfl Try.agg86 (cell_nth hB124 rfl)) ?_
              refine wl_val rfl (ex_build (vs := [(0, _), (1, _), (2, _)]) Try.build90 rfl (cells := [_, _, _]) rfl) ?_
              refine wl_boxA rfl rfl fun nb w293 hB294 hs295 hw296 => ?_
              have hA297 := Apart.new (Lt.blk hB120) hs295
              have hA298 := Apart.new (Lt.own hO121) hs295
              have hA299 := Apart.new (Lt.own hO122) hs295
              have hA300 := Apart.new (Lt.own hO123) hs295
              have hA301 := Apart.new (Lt.blk hB124) hs295
              have hA302 := Apart.new (Lt.blk hB125) hs295
              have hG303 := Ge.new hE118 hs295
              have hG304 := Ge.new hE119 hs295
              have hE305 := hE118.then hw296
              have hE306 := hE119.then hw296
              have hB307 := hw296.blk0 hB120
              have hO308 := hO121.evo0 hw296
              have hO309 := hO122.evo0 hw296
              have hO310 := hO123.evo0 hw296
              have hB311 := hw296.blk0 hB124
              have hB312 := hw296.blk0 hB125
              refine wl_val rfl (ex_build (vs := [(0, _), (1, _)]) Try.build117 rfl (cells := [_, _]) rfl) ?_
              refine wl_bslice (vs := [_]) rfl Try.slice112 rfl rfl rfl rfl fun b313 w314 hO315 hs316 hw317 => ?_
              have hA318 := Apart.new (Lt.blk hB307) hs316
              have hA319 := Apart.new (Lt.own hO308) hs316
              have hA320 := Apart.new (Lt.own hO309) hs316
              have hA321 := Apart.new (Lt.own hO310) hs316
              have hA322 := Apart.new (Lt.blk hB311) hs316
              have hA323 := Apart.new (Lt.blk hB312) hs316
              have hA324 := Apart.new (Lt.blk hB294) hs316
              have hG325 := Ge.new hE305 hs316
              have hG326 := Ge.new hE306 hs316
              have hE327 := hE305.then hw317
              have hE328 := hE306.then hw317
              have hB329 := hw317.blk0 hB307
              have hO330 := hO308.evo0 hw317
              have hO331 := hO309.evo0 hw317
              have hO332 := hO310.evo0 hw317
              have hB333 := hw317.blk0 hB311
              have hB334 := hw317.blk0 hB312
              have hB335 := hw317.blk0 hB294
              refine wl_append rfl rfl rfl rfl Try.app112_112 hO332 (Src.ofOwn hO315 ⟨by first | rfl | assumption, by first | rfl | assumption, trivial⟩) (by omega) fun ka1 kc1 w338 obk hKa hw341 hob342 => ?_
              have hA343 := hmk.app (Lt.blk hB329) hob342
              have hA344 := hsk.app (Lt.own hO330) hob342
              have hA345 := htk.app (Lt.own hO331) hob342
              have hA346 := hbk.app (Lt.blk hB333) hob342
              have hA347 := hA92.symm.app (Lt.blk hB334) hob342
              have hA348 := hA300.symm.app (Lt.blk hB335) hob342
              have hA349 := hA321.symm.app (Lt.own hO315) hob342
              have hG350 := hgk.app hE327 hob342
              have hE351 := hE327.step hw341 hgk.mem
              have hE352 := hE328.step hw341 (fun y hy => .inl (xm_k y hy))
              have hB353 := hw341.blk hB329 hmk.nmem
              have hO354 := hO330.evo hw341 hsk.own
              have hO355 := hO331.evo hw341 htk.own
              have hB356 := hw341.blk hB333 hbk.nmem
              have hB357 := hw341.blk hB334 hA92.symm.nmem
              have hB358 := hw341.blk hB335 hA300.symm.nmem
              have hO359 := hO315.evo hw341 hA321.symm.own
              have hobk := hob342
              have hpreK := hE328
              refine wl_val rfl (ex_assign rfl) ?_
              refine wl_nil (nrm_block (nrm_block (nrm_then ?_)))
              refine ⟨⟨(ci.out.toNat, (ci.arg.toNat, a) :: t) :: stk1, kr1 ++ [[iv (ci.out.toNat : Nat), .pointer (some ⟨nb, 0, none⟩)]], ka1, kc1, obk, (mark sv i (a + 1)), ls, tr, ta, tn, tc, tob, iv i, (.pointer q)⟩, ?_, ⟨rfl, trivial⟩, ⟨rfl, rfl, rfl, trivial⟩, hE351, ?_⟩
              · (try dsimp only); first | omega | (simp only [List.length_cons]; omega) | (simp only [List.length_cons] at *; omega)
              · skip
                try dsimp only
                have hmv2 : mvOf p s a i = .save ci.arg.toNat ci.out.toNat := by rw [hmv]; unfold mvI; rw [if_neg (by omega), if_neg (by omega), if_neg hc80, if_pos hc95]
                have hxx := xm_to' hE352 (t' := tob) (k' := obk) (fun y hy => .inl (xm_t y hy)) (ob_in hobk hpreK xm_k)
                have hKr3 := rows_step hKr1 hE352 hxx
                have hTr3 := rows_step hTr hE352 hxx
                have hNv3 := hNv.step hE352 hxx
                rw [List.reverse_cons]
                refine ⟨(by rw [one_flat hout.1]; exact hKa), hKr3.snoc rfl ⟨_, rfl, .cons (xm_nmem hA297 hA298 hA301 hA299 hA348.symm) (by rw [Int.toNat_of_nonneg (show 0 ≤ ci.arg by omega)]; exact hB358) hNv3⟩, hO354, hO355, hTr3, hB353, hB356, fun d hd => by rcases List.mem_cons.1 hd with rfl | hd; { simp only; omega }; { exact hsn d (List.mem_cons_of_mem _ hd) }, by first | omega | (simp only [List.length_cons] at *; omega), by omega, (mark_le hsv), fun Lx V' h => hE Lx V' (.save hsn2 hmv2 (by rw [← seen_mark]; exact h)), hmt, hst, hbt, hA343, hA344, hA346, hA345, hG350, hto, hto2⟩
            · skip
              refine cw_seq ?_
              refine cw_region ?_
              refine wl_val rfl (ex_move rfl) ?_
              refine wl_val rfl (ex_loadBlk rfl Try.agg29 Try.size29 hB125 rfl) ?_
              refine wl_val rfl (ex_move rfl) ?_
              refine wl_call1 (vs := [_, _, _]) Try.goes76 rfl (holds_ok _ _ _ _ s a hB120 ha (by omega)) rfl ?_
              rintro _ w360 ⟨rfl, hw361⟩
              have hE362 := hE118.then hw361
              have hE363 := hE119.then hw361
              have hB364 := hw361.blk0 hB120
              have hO365 := hO121.evo0 hw361
              have hO366 := hO122.evo0 hw361
              have hO367 := hO123.evo0 hw361
              have hB368 := hw361.blk0 hB124
              have hB369 := hw361.blk0 hB125
              refine wl_nil (nrm_then ?_)
              refine cw_if rfl (fun hc58 => ?_) (fun hc58 => ?_)
              · skip
                have hop2 : ¬ ci.op = 11 := fun e => by rw [e] at hc58; simp [Stands] at hc58
                have hout : 0 ≤ ci.out ∧ ci.out < p.insts.length := n4 (by omega)
                refine cw_region ?_
                refine wl_val rfl (ex_move rfl) ?_
                refine wl_val rfl (ex_fieldAddr rfl Try.fld29_1) ?_
                refine wl_val rfl (ex_load1 rfl Try.agg3 (cell_nth hB369 rfl)) ?_
                refine wl_val rfl (ex_fieldAddr rfl Try.fld117_1) ?_
                refine wl_val rfl (ex_load1 rfl Try.agg86 (cell_nth hB368 rfl)) ?_
                refine wl_val rfl (ex_build (vs := [(0, _), (1, _)]) Try.build117 rfl (cells := [_, _]) rfl) ?_
                refine wl_bslice (vs := [_]) rfl Try.slice112 rfl rfl rfl rfl fun b370 w371 hO372 hs373 hw374 => ?_
                have hA375 := Apart.new (Lt.blk hB364) hs373
                have hA376 := Apart.new (Lt.own hO365) hs373
                have hA377 := Apart.new (Lt.own hO366) hs373
                have hA378 := Apart.new (Lt.own hO367) hs373
                have hA379 := Apart.new (Lt.blk hB368) hs373
                have hA380 := Apart.new (Lt.blk hB369) hs373
                have hG381 := Ge.new hE362 hs373
                have hG382 := Ge.new hE363 hs373
                have hE383 := hE362.then hw374
                have hE384 := hE363.then hw374
                have hB385 := hw374.blk0 hB364
                have hO386 := hO365.evo0 hw374
                have hO387 := hO366.evo0 hw374
                have hO388 := hO367.evo0 hw374
                have hB389 := hw374.blk0 hB368
                have hB390 := hw374.blk0 hB369
                refine wl_append rfl rfl rfl rfl Try.app112_112 hO388 (Src.ofOwn hO372 ⟨by first | rfl | assumption, by first | rfl | assumption, trivial⟩) (by omega) fun ka1 kc1 w393 obk hKa hw396 hob397 => ?_
                have hA398 := hmk.app (Lt.blk hB385) hob397
                have hA399 := hsk.app (Lt.own hO386) hob397
                have hA400 := htk.app (Lt.own hO387) hob397
                have hA401 := hbk.app (Lt.blk hB389) hob397
                have hA402 := hA92.symm.app (Lt.blk hB390) hob397
                have hA403 := hA378.symm.app (Lt.own hO372) hob397
                have hG404 := hgk.app hE383 hob397
                have hE405 := hE383.step hw396 hgk.mem
                have hE406 := hE384.step hw396 (fun y hy => .inl (xm_k y hy))
                have hB407 := hw396.blk hB385 hmk.nmem
                have hO408 := hO386.evo hw396 hsk.own
                have hO409 := hO387.evo hw396 htk.own
                have hB410 := hw396.blk hB389 hbk.nmem
                have hB411 := hw396.blk hB390 hA92.symm.nmem
                have hO412 := hO372.evo hw396 hA378.symm.own
                have hobk := hob397
                have hpreK := hE384
                refine wl_val rfl (ex_assign rfl) ?_
                refine wl_nil (nrm_block (nrm_block (nrm_then ?_)))
                refine ⟨⟨(ci.out.toNat, t) :: stk1, kr1 ++ [[iv (ci.out.toNat : Nat), (.pointer q)]], ka1, kc1, obk, (mark sv i (a + 1)), ls, tr, ta, tn, tc, tob, iv i, (.pointer q)⟩, ?_, ⟨rfl, trivial⟩, ⟨rfl, rfl, rfl, trivial⟩, hE405, ?_⟩
                · (try dsimp only); first | omega | (simp only [List.length_cons]; omega) | (simp only [List.length_cons] at *; omega)
                · skip
                  try dsimp only
                  have hmv2 : mvOf p s a i = .go ci.out.toNat := by rw [hmv]; unfold mvI; rw [if_neg (by omega), if_neg (by omega), if_neg hc80, if_neg hc95, if_pos hc58]
                  have hxx := xm_to' hE406 (t' := tob) (k' := obk) (fun y hy => .inl (xm_t y hy)) (ob_in hobk hpreK xm_k)
                  have hKr3 := rows_step hKr1 hE406 hxx
                  have hTr3 := rows_step hTr hE406 hxx
                  have hNv3 := hNv.step hE406 hxx
                  rw [List.reverse_cons]
                  refine ⟨(by rw [one_flat hout.1]; exact hKa), hKr3.snoc rfl ⟨(.pointer q), rfl, hNv3⟩, hO408, hO409, hTr3, hB407, hB410, fun d hd => by rcases List.mem_cons.1 hd with rfl | hd; { simp only; omega }; { exact hsn d (List.mem_cons_of_mem _ hd) }, by first | omega | (simp only [List.length_cons] at *; omega), by omega, (mark_le hsv), fun Lx V' h => hE Lx V' (.go hsn2 hmv2 (by rw [← seen_mark]; exact h)), hmt, hst, hbt, hA398, hA399, hA401, hA400, hG404, hto, hto2⟩
              · skip
                refine cw_skip (nrm_block (nrm_block (nrm_then ?_)))
                refine ⟨⟨stk1, kr1, some ⟨gk, 0, none⟩, kc, some gk, (mark sv i (a + 1)), ls, tr, ta, tn, tc, tob, iv i, (.pointer q)⟩, ?_, ⟨rfl, trivial⟩, ⟨rfl, rfl, rfl, trivial⟩, hE362, ?_⟩
                · (try dsimp only); first | omega | (simp only [List.length_cons]; omega) | (simp only [List.length_cons] at *; omega)
                · skip
                  try dsimp only
                  have hmv2 : mvOf p s a i = .dead := by rw [hmv]; unfold mvI; rw [if_neg (by omega), if_neg (by omega), if_neg hc80, if_neg hc95, if_neg hc58]
                  have hxx := xm_to' hE363 (t' := tob) (k' := some gk) (fun y hy => .inl (xm_t y hy)) (fun y hy => .inl (xm_k y hy))
                  have hKr3 := rows_step hKr1 hE363 hxx
                  have hTr3 := rows_step hTr hE363 hxx
                  have hNv3 := hNv.step hE363 hxx
                  refine ⟨hO367, hKr3, hO365, hO366, hTr3, hB364, hB368, fun d hd => hsn d (List.mem_cons_of_mem _ hd), by first | omega | (simp only [List.length_cons] at *; omega), by omega, (mark_le hsv), fun Lx V' h => hE Lx V' (.dead hsn2 hmv2 (by rw [← seen_mark]; exact h)), hmt, hst, hbt, hmk, hsk, hbk, htk, hgk, hto, hto2⟩
  · skip
    refine cw_exit (ex_then (ex_then (ex_here (body_end0 rfl ?_))))
    have hz : stk = [] := List.eq_nil_of_length_eq_zero (by omega)
    subst hz
    have hE2 := hE [] (seenV a sv) .nil
    rw [List.append_nil] at hE2
    exact ⟨sv, ta, tn, tc, tr, tob, ls, rfl, hE2, hM, hSe, hTh, rows_step hTr (Evo.refl _ _) (fun y hy => .inl (xm_s y hy)), hsv, htn, hmt, hst, hto2, hV29⟩

end Go.Proofs.Ytopjnoblhleimaa
