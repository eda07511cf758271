import Derived.Test.YtclmkppiolfgbaaDoorKk
namespace Go.Proofs.YtclmkppiolfgbaaDoor
open Go.Proofs
open Go.W
attribute [local irreducible] Decidable.decide
set_option linter.unusedSimpArgs false
set_option linter.unusedVariables false
theorem Tryd.app22_22 : appB Tryd.prog 22 22 = some (41, 3, 24) := by kernel_rfl
theorem Tryd.build79 : Build Tryd.prog 79 #[(0, 1), (1, 1), (2, 1)] #[.slice none 0 0, .int .i64 0, .bool false] := ⟨_, .agg #[.slice none 0 0, .int .i64 0, .bool false], Tryd.underlying79, by kernel_rfl, rfl, fun w => by kernel_rfl⟩
theorem Tryd.goes13 : Goes Tryd.prog 13 := ⟨_, Tryd.func13, by kernel_rfl, by kernel_rfl⟩
theorem Tryd.goes35 : Goes Tryd.prog 35 := ⟨_, Tryd.func35, by kernel_rfl, by kernel_rfl⟩
theorem Tryd.slice22 : sliceB Tryd.prog 22 = some (41, 3) := by kernel_rfl


def srow (s : Smp) : List Value := [.int .i64 s.t, .float .f64 s.v, .bool s.st]
abbrev srows (l : List Smp) : List Value := (l.map srow).flatten
theorem srows_snoc (l : List Smp) (s : Smp) : srows (l ++ [s]) = srows l ++ srow s := by simp [srows]
theorem own_smp {X : List Nat} {w : World} {e : TypeId} {a : Option Addr} {m c : Nat} {l : List Smp} {ob : Option Nat} (h : OwnS w e 3 a m c (srows l) ob) (hl : l.length = m) (hb : ∀ s, s ∈ l → s.Ok) (hx : ∀ g, ob = some g → g ∉ X) : RSl 3 RSmp X w (.slice a m c) l :=
  RSl.ofOwn (rows := l.map srow) h ⟨by simp, fun k h1 h2 => by simp only [List.getElem_map]; exact ⟨rfl, rfl, hb _ (List.getElem_mem h1)⟩⟩ hl hx
/-- No list has this form. -/
def NoForm (bs : List Nat) : Prop := ¬ ∃ s, Valid s ∧ Packs bs (form s)
theorem unp_no {bs : List Nat} (h : NoForm bs) : UnpackIs bs [] 171 := .inr ⟨rfl, rfl, h⟩
theorem unp_head {bs : List Nat} (h : (get (unpk bs) ⟨0, false⟩ 17).2.sh = true ∨ 100000 < (get (unpk bs) ⟨0, false⟩ 17).1) : NoForm bs := fun ⟨s, hs, hp⟩ => by
  rw [head_spec hs hp] at h
  have := hs.len
  rcases h with h | h
  · cases h
  · simp only at h; omega
theorem get17 {B : List Bool} (h : (get B ⟨0, false⟩ 17).2.sh = false) : (get B ⟨0, false⟩ 17).2 = ⟨17, false⟩ ∧ 17 ≤ B.length := by
  unfold get at h ⊢
  split at h
  · rename_i h1; rw [if_pos h1]; exact ⟨rfl, by simpa using h1⟩
  · cases h
theorem unp_bad {bs : List Nat} {k : Nat} {l : List Smp} {z : Stt} {q : Rd} (hr : run (unpk bs) ⟨17, false⟩ k = some (l, z, q)) (hk : k < (get (unpk bs) ⟨0, false⟩ 17).1) (h : (rsmp (unpk bs) z q).2.1 = false ∨ (rsmp (unpk bs) z q).2.2.2.sh = true) : NoForm bs := fun ⟨s, hs, hp⟩ => by
  rw [head_spec hs hp] at hk
  have h1 := run_all hs hp (k + 1) hk
  rw [run_bad hr h] at h1
  cases h1
theorem pack_form {bs bs2 : List Nat} {s : List Smp} {e : Int} (hs : Valid s) (h : Packs bs (form s)) (k : PackIs (s.map canon) bs2 e) : e = 0 ∧ bs2 = bs := by
  have hl := hs.len
  have hr : Rises (s.map canon) := fun i hi => by
    simp only [List.length_map] at hi
    have := hs.up i hi
    simp only [List.getElem_map, canon_t]; exact this
  rcases k with ⟨k, _⟩ | ⟨_, k, _⟩ | ⟨_, _, k, ke⟩
  · simp at k; omega
  · exact absurd hr k
  · rw [form_canon] at k
    exact ⟨ke, PacksN.uniq k h⟩
theorem unp_end {bs bs2 : List Nat} {l : List Smp} {e : Int} (h : ∀ s, Valid s → Packs bs (form s) → l = s.map canon) (k : PackIs l bs2 e) (hne : ¬ (e = 0 ∧ bs2 = bs)) : NoForm bs := fun ⟨s, hs, hp⟩ => by
  rw [h s hs hp] at k
  exact hne (pack_form hs hp k)
theorem unp_yes {bs : List Nat} {l : List Smp} {e : Int} (hok : ∀ s, s ∈ l → s.Ok) (hc : ∀ s, s ∈ l → Canon s) (k : PackIs l bs e) (he : e = 0) : UnpackIs bs l 0 := by
  subst he
  rcases k with ⟨_, _, k⟩ | ⟨_, _, _, k⟩ | ⟨k1, k2, k3, _⟩
  · cases k
  · cases k
  · exact .inl ⟨rfl, ⟨k1, k2, hok⟩, hc, k3⟩
theorem run_out {bs : List Nat} {l : List Smp} {z : Stt} {q : Rd} (hr : run (unpk bs) ⟨17, false⟩ (get (unpk bs) ⟨0, false⟩ 17).1 = some (l, z, q)) : ∀ s, Valid s → Packs bs (form s) → l = s.map canon := fun s hs hp => by
  rw [head_spec hs hp] at hr
  have h1 := run_all hs hp s.length (Nat.le_refl _)
  simp only at hr
  rw [h1, List.take_length] at hr
  exact (congrArg Prod.fst (Option.some.inj hr)).symm

theorem unpack_new {X : List Nat} {w : World} {v0 : Value} {bs : List Nat} (hs : RSl 1 RB X w v0 bs) (hl : bs.length ≤ 140737488355328) (ht : Tab w) :
    Calls Tryd.prog 17 #[v0] w (Ret fun r w' => ∃ a n c out e ob, r = .tuple #[.slice a n c, .int .i64 e] ∧ OwnS w' 41 3 a n c (srows out) ob ∧ List.length (α := Smp) out = n ∧ (∀ s, s ∈ out → s.Ok) ∧ Ge w ob ∧ UnpackIs bs out e ∧ Evo [] w w') := by
  have hlt := rsl_lt hs
  have hs0 := hs
  obtain ⟨a0, c0, rfl, hlc, _⟩ := hs
  refine calls_of_cw (N := 65) Tryd.func17 rfl rfl rfl ?_
  refine cw_seq ?_
  refine cw_region ?_
  refine wl_val rfl (ex_assign rfl) ?_
  refine wl_val rfl (ex_assign rfl) ?_
  refine wl_nil (nrm_then ?_)
  refine cw_seq ?_
  refine cw_region ?_
  refine wl_val rfl (ex_move rfl) ?_
  refine wl_val rfl (ex_build (vs := [(0, _)]) Tryd.build79 rfl (cells := [_, _, _]) rfl) ?_
  refine wl_boxA rfl rfl fun b1 w2 hB3 hs4 hw5 => ?_
  have hG6 := Ge.new (Evo.refl [] w) hs4
  have hE7 := (Evo.refl [] w).then hw5
  refine wl_val rfl (ex_build (vs := []) Tryd.build74 rfl (cells := [_, _, _, _, _, _, _]) rfl) ?_
  refine wl_boxA rfl rfl fun b8 w9 hB10 hs11 hw12 => ?_
  have hA13 := Apart.new (Lt.blk hB3) hs11
  have hG14 := Ge.new hE7 hs11
  have hE15 := hE7.then hw12
  have hB16 := hw12.blk0 hB3
  refine wl_val rfl (ex_assign rfl) ?_
  refine wl_val rfl (ex_assign rfl) ?_
  refine wl_nil (nrm_then ?_)
  refine cw_seq ?_
  refine cw_region ?_
  have hs2 : RSl 1 RB [b8, b1] w (.slice a0 bs.length c0) bs := RSl.fresh (by omega) RB.fresh (fun y hy => by rcases List.mem_cons.1 hy with h | h; { subst h; exact .inr (hG14 _ rfl) }; { rw [List.mem_singleton.1 h]; exact .inr (hG6 _ rfl) }) hs0
  refine wl_val rfl (ex_move rfl) ?_
  refine wl_call1 (vs := [_, _]) Tryd.goes34 rfl (get_ok (X := [b8, b1]) (r := ⟨0, false⟩) hB16 (RSl.evo RB.pers ((hE15).any _) hs2) (by simp) hl (Nat.zero_le _) 17 (by omega)) rfl ?_
  rintro _ w17 ⟨rfl, hR1, hw18⟩
  have hE19 := hE15.step hw18 hG6.mem1
  have hB20 := hw18.blk hB10 hA13.symm.nmem1
  refine wl_val rfl (ex_convI rfl Tryd.underlying72 Tryd.underlying3) ?_
  have hg17 := get_lt (unpk bs) ⟨0, false⟩ 17
  rw [i64_of (n := (((get (unpk bs) ⟨0, false⟩ 17).1 : Nat) : Int)) (by omega) (by omega)]
  refine wl_val rfl (ex_assign rfl) ?_
  refine wl_nil (nrm_then ?_)
  refine cw_seq ?_
  refine cw_seq ?_
  refine cw_region ?_
  refine wl_val rfl (ex_move rfl) ?_
  refine wl_val rfl (ex_nilCheck rfl) ?_
  refine wl_val rfl (ex_fieldAddr rfl Tryd.fld79_2) ?_
  refine wl_val rfl (ex_load1 rfl Tryd.agg4 (cell_nth hR1 rfl)) ?_
  refine wl_val rfl (ex_move rfl) ?_
  refine wl_splitb (t := 24) rfl (fun hs24 => ?_) (fun hs24 => ?_)
  · skip
    refine wl_no rfl rfl rfl rfl rfl rfl ?_
    refine wl_no rfl rfl rfl rfl rfl rfl ?_
    refine wl_val rfl (ex_pick_t rfl rfl) ?_
    refine wl_nil (nrm_then ?_)
    refine cw_true rfl ?_
    refine cw_seq ?_
    refine cw_region ?_
    refine wl_val rfl (ex_assign rfl) ?_
    refine wl_val rfl (ex_assign rfl) ?_
    refine wl_nil (nrm_then ?_)
    refine cw_ret (ret_then (body_ret2 rfl rfl rfl ?_))
    exact ⟨none, 0, 0, [], 171, none, rfl, OwnS.nil _ _ _, rfl, fun _ h => (by cases h), Ge.nil _, unp_no (unp_head (.inl hs24)), hE19⟩
  · skip
    refine wl_go rfl rfl rfl rfl ?_
    refine wl_val rfl (ex_move rfl) ?_
    refine wl_go rfl rfl rfl rfl ?_
    refine wl_val rfl (ex_gtr rfl rfl) ?_
    refine wl_val rfl (ex_pick_f rfl rfl) ?_
    refine wl_nil (nrm_then ?_)
    refine cw_if rfl (fun hc27 => ?_) (fun hc27 => ?_)
    · skip
      refine cw_seq ?_
      refine cw_region ?_
      refine wl_val rfl (ex_assign rfl) ?_
      refine wl_val rfl (ex_assign rfl) ?_
      refine wl_nil (nrm_then ?_)
      refine cw_ret (ret_then (body_ret2 rfl rfl rfl ?_))
      exact ⟨none, 0, 0, [], 171, none, rfl, OwnS.nil _ _ _, rfl, fun _ h => (by cases h), Ge.nil _, unp_no (unp_head (.inr (by omega))), hE19⟩
    · skip
      refine cw_skip (nrm_then ?_)
      refine cw_seq ?_
      obtain ⟨hr17, h17⟩ := get17 (B := unpk bs) hs24
      refine cw_region ?_
      refine wl_val rfl (ex_assign rfl) ?_
      refine wl_nil (nrm_then ?_)
      refine cw_seq ?_
      refine cw_seq ?_
      refine cw_region ?_
      refine wl_val rfl (ex_move rfl) ?_
      refine wl_val rfl (ex_move rfl) ?_
      refine wl_nil (nrm_then ?_)
      refine cw_block ?_
      refine cw_loop (α := Nat × List Smp × Stt × Rd × Option Addr × Nat × Option Nat) ((0, [], Stt.zero, ⟨17, false⟩, none, 0, none)) (fun x => [(29, .int .i64 (x.1 : Nat)), (7, .slice x.2.2.2.2.1 x.1 x.2.2.2.2.2.1)]) [(0, _), (4, _), (5, _), (28, _)] (fun x wr => Evo [b8, b1] w17 wr ∧ (x.1 ≤ (get (unpk bs) ⟨0, false⟩ 17).1 ∧ run (unpk bs) ⟨17, false⟩ x.1 = some (x.2.1, x.2.2.1, x.2.2.2.1) ∧ RunOk (unpk bs) x.1 (x.2.1, x.2.2.1, x.2.2.2.1) ∧ OwnS wr 41 3 x.2.2.2.2.1 x.1 x.2.2.2.2.2.1 (srows x.2.1) x.2.2.2.2.2.2 ∧ wr.heap[b8]? = some (.cells (zv x.2.2.1).toArray 74 (0, 0)) ∧ wr.heap[b1]? = some (.cells (rv (.slice a0 bs.length c0) x.2.2.2.1).toArray 79 (0, 0)) ∧ Apart (some b8) x.2.2.2.2.2.2 ∧ Apart (some b1) x.2.2.2.2.2.2 ∧ Ge w17 x.2.2.2.2.2.2)) (fun x => (get (unpk bs) ⟨0, false⟩ 17).1 - x.1) ⟨rfl, rfl, trivial⟩ ⟨rfl, rfl, rfl, rfl, trivial⟩ ⟨Evo.refl _ _, ⟨Nat.zero_le _, rfl, RunOk.zero (by simpa using h17), OwnS.nil _ _ _, hB20, by rw [← hr17]; exact hR1, Apart.nil _, Apart.nil _, Ge.nil _⟩⟩ ?_
      rintro ⟨k, l, z, q, a, c, ob⟩ wr21 ⟨hV22, ⟨hk, hrun, hrok, hO, hZ, hR, hzo, hro, hgo⟩⟩
      show CW _ _ _ _ [(29, .int .i64 (k : Nat)), (7, .slice a k c), (0, _), (4, _), (5, _), (28, _)] _
      try dsimp only at hk
      try dsimp only at hrun
      try dsimp only at hrok
      try dsimp only at hO
      try dsimp only at hZ
      try dsimp only at hR
      try dsimp only at hzo
      try dsimp only at hro
      try dsimp only at hgo
      have hE23 := hE19.step hV22 (fun y hy => by rcases List.mem_cons.1 hy with h | h; { subst h; exact .inr (hG14 _ rfl) }; { rw [List.mem_singleton.1 h]; exact .inr (hG6 _ rfl) })
      have hgo2 := Ge.fresh hE19 hgo
      have haq : q.at' ≤ 8 * bs.length := by have := hrok.a; simpa using this
      have hzn := hrok.n
      have hll := hrok.len
      dsimp only at hzn hll
      refine cw_seq ?_
      refine cw_region ?_
      refine wl_val rfl (ex_lss rfl rfl) ?_
      refine wl_nil (nrm_then ?_)
      refine cw_seq ?_
      refine cw_if rfl (fun hc30 => ?_) (fun hc30 => ?_)
      · skip
        have hkk : k < (get (unpk bs) ⟨0, false⟩ 17).1 := by omega
        refine cw_skip (nrm_then ?_)
        refine cw_seq ?_
        refine cw_block ?_
        refine cw_seq ?_
        refine cw_region ?_
        refine wl_val rfl (ex_move rfl) ?_
        refine wl_val rfl (ex_move rfl) ?_
        refine wl_call1 (vs := [_, _]) Tryd.goes35 rfl (read_ok hR hZ (RSl.evo RB.pers ((hE23).any _) hs2) (by simp) (by simp) hA13.symm hrok.z (by omega) hl haq) rfl ?_
        rintro _ w24 ⟨rfl, hR3, hZ3, hw25⟩
        have hE26 := hE23.step hw25 (fun y hy => by rcases List.mem_cons.1 hy with h | h; { subst h; exact .inr (hG14 _ rfl) }; { rw [List.mem_singleton.1 h]; exact .inr (hG6 _ rfl) })
        have hE27 := hV22.step hw25 (fun y hy => .inl hy)
        have hB28 := hO.evo hw25 (fun g hg => by subst hg; exact nmc hzo.symm (nmc hro.symm (by simp)))
        refine wl_val rfl (ex_move rfl) ?_
        refine wl_val rfl (ex_extract rfl rfl) ?_
        refine wl_val rfl (ex_extract rfl rfl) ?_
        refine wl_alloc rfl Tryd.zero41 fun b29 w30 hB31 hs32 hw33 => ?_
        have hA34 := Apart.new (Lt.own hB28) hs32
        have hA35 := Apart.new (Lt.blk hZ3) hs32
        have hA36 := Apart.new (Lt.blk hR3) hs32
        have hG37 := Ge.new hE26 hs32
        have hG38 := Ge.new hE27 hs32
        have hE39 := hE26.then hw33
        have hE40 := hE27.then hw33
        have hO41 := hB28.evo0 hw33
        have hB42 := hw33.blk0 hZ3
        have hB43 := hw33.blk0 hR3
        refine wl_storeBlk rfl rfl Tryd.size41 hB31 rfl rfl ⟨by first | rfl | assumption, by first | rfl | assumption, by first | rfl | assumption, trivial⟩ fun w44 hB45 hw46 => ?_
        have hE47 := hE39.step hw46 hG37.mem1
        have hE48 := hE40.step hw46 hG38.mem1
        have hO49 := hO41.evo hw46 hA34.own1
        have hB50 := hw46.blk hB42 hA35.nmem1
        have hB51 := hw46.blk hB43 hA36.nmem1
        try simp only [List.setIfInBounds_toArray, List.set_cons_zero, List.set_cons_succ, Nat.reduceAdd, Nat.zero_add, Nat.add_zero] at hB45
        refine wl_val rfl (ex_assign rfl) ?_
        refine wl_nil (nrm_then ?_)
        refine cw_seq ?_
        refine cw_seq ?_
        refine cw_region ?_
        refine wl_val rfl (ex_move rfl) ?_
        refine wl_val rfl (ex_notb rfl) ?_
        refine wl_val rfl (ex_move rfl) ?_
        refine wl_splitb (t := 39) rfl (fun hs39 => ?_) (fun hs39 => ?_)
        · skip
          refine wl_no rfl rfl rfl rfl rfl rfl ?_
          refine wl_no rfl rfl rfl rfl rfl rfl ?_
          refine wl_no rfl rfl rfl rfl rfl rfl ?_
          refine wl_no rfl rfl rfl rfl rfl rfl ?_
          refine wl_val rfl (ex_pick_t rfl rfl) ?_
          refine wl_nil (nrm_then ?_)
          refine cw_true rfl ?_
          refine cw_seq ?_
          refine cw_region ?_
          refine wl_val rfl (ex_assign rfl) ?_
          refine wl_val rfl (ex_assign rfl) ?_
          refine wl_nil (nrm_then ?_)
          refine cw_ret (ret_then (ret_block (ret_then (ret_then (ret_block (ret_then (body_ret2 rfl rfl rfl ?_)))))))
          exact ⟨none, 0, 0, [], 171, none, rfl, OwnS.nil _ _ _, rfl, fun _ h => (by cases h), Ge.nil _, unp_no (unp_bad hrun hkk (.inl (by simpa using hs39))), hE47⟩
        · skip
          refine wl_go rfl rfl rfl rfl ?_
          refine wl_val rfl (ex_move rfl) ?_
          refine wl_go rfl rfl rfl rfl ?_
          refine wl_val rfl (ex_nilCheck rfl) ?_
          refine wl_go rfl rfl rfl rfl ?_
          refine wl_val rfl (ex_fieldAddr rfl Tryd.fld79_2) ?_
          refine wl_go rfl rfl rfl rfl ?_
          refine wl_val rfl (ex_load1 rfl Tryd.agg4 (cell_nth hB51 rfl)) ?_
          refine wl_val rfl (ex_pick_f rfl rfl) ?_
          refine wl_nil (nrm_then ?_)
          refine cw_ifb rfl (fun hc44 => ?_) (fun hc44 => ?_)
          · skip
            refine cw_seq ?_
            refine cw_region ?_
            refine wl_val rfl (ex_assign rfl) ?_
            refine wl_val rfl (ex_assign rfl) ?_
            refine wl_nil (nrm_then ?_)
            refine cw_ret (ret_then (ret_block (ret_then (ret_then (ret_block (ret_then (body_ret2 rfl rfl rfl ?_)))))))
            exact ⟨none, 0, 0, [], 171, none, rfl, OwnS.nil _ _ _, rfl, fun _ h => (by cases h), Ge.nil _, unp_no (unp_bad hrun hkk (.inr hc44)), hE47⟩
          · skip
            refine cw_skip (nrm_then ?_)
            refine cw_region ?_
            refine wl_val rfl (ex_move rfl) ?_
            refine wl_val rfl (ex_loadBlk rfl Tryd.agg41 Tryd.size41 hB45 rfl) ?_
            refine wl_bslice (vs := [_]) rfl Tryd.slice22 rfl rfl rfl rfl fun b52 w53 hO54 hs55 hw56 => ?_
            have hA57 := Apart.new (Lt.own hO49) hs55
            have hA58 := Apart.new (Lt.blk hB50) hs55
            have hA59 := Apart.new (Lt.blk hB51) hs55
            have hA60 := Apart.new (Lt.blk hB45) hs55
            have hG61 := Ge.new hE47 hs55
            have hG62 := Ge.new hE48 hs55
            have hE63 := hE47.then hw56
            have hE64 := hE48.then hw56
            have hO65 := hO49.evo0 hw56
            have hB66 := hw56.blk0 hB50
            have hB67 := hw56.blk0 hB51
            have hB68 := hw56.blk0 hB45
            refine wl_append rfl rfl rfl rfl Tryd.app22_22 hO65 (Src.ofOwn hO54 ⟨by first | rfl | assumption, by first | rfl | assumption, by first | rfl | assumption, trivial⟩) (by omega) fun a1 c1 w71 ob1 hO1 hw74 hob75 => ?_
            have hA76 := hzo.app (Lt.blk hB66) hob75
            have hA77 := hro.app (Lt.blk hB67) hob75
            have hA78 := hA34.symm.app (Lt.blk hB68) hob75
            have hA79 := hA57.symm.app (Lt.own hO54) hob75
            have hG80 := hgo2.app hE63 hob75
            have hG81 := hgo.app hE64 hob75
            have hE82 := hE63.step hw74 hgo2.mem
            have hE83 := hE64.step hw74 hgo.mem
            have hB84 := hw74.blk hB66 hzo.nmem
            have hB85 := hw74.blk hB67 hro.nmem
            have hB86 := hw74.blk hB68 hA34.symm.nmem
            have hO87 := hO54.evo hw74 hA57.symm.own
            refine wl_val rfl (ex_assign rfl) ?_
            refine wl_nil (nrm_block (nrm_then ?_))
            refine cw_region ?_
            refine wl_val rfl (ex_add_i64 rfl rfl (by omega) (by omega)) ?_
            refine wl_val rfl (ex_move rfl) ?_
            refine wl_nil (nrm_same ?_)
            refine ⟨(k + 1, l ++ [(rsmp (unpk bs) z q).1], (rsmp (unpk bs) z q).2.2.1, (rsmp (unpk bs) z q).2.2.2, a1, c1, ob1), ?_, ⟨rfl, rfl, trivial⟩, ⟨rfl, rfl, rfl, rfl, trivial⟩, hE83, ?_⟩
            · (try dsimp only); omega
            · skip
              try dsimp only
              have hok1 : (rsmp (unpk bs) z q).2.1 = true := by simpa using hs39
              have hsh1 : (rsmp (unpk bs) z q).2.2.2.sh = false := by simpa using hc44
              refine ⟨by omega, run_succ hrun hok1 hsh1, hrok.succ hok1, by rw [srows_snoc]; exact hO1, hB84, hB85, hA76, hA77, hG81⟩
      · skip
        refine cw_exit (ex_then (ex_then (ex_here (nrm_then ?_))))
        refine cw_seq ?_
        refine cw_region ?_
        refine wl_val rfl (ex_move rfl) ?_
        refine wl_call1 (vs := [_]) Tryd.goes13 rfl (pack_ok (X := []) (own_smp hO hll hrok.ok (fun _ _ => by simp)) (by omega) (ht.evo hE23 (by simp))) rfl ?_
        rintro _ w88 ⟨v2, bs2, e2, rfl, hs3, hP, hw89⟩
        have hE90 := hE23.then hw89
        have hE91 := hV22.then hw89
        have hB92 := hw89.blk0 hZ
        have hB93 := hw89.blk0 hR
        have hO94 := hO.evo0 hw89
        refine wl_val rfl (ex_move rfl) ?_
        refine wl_val rfl (ex_extract rfl rfl) ?_
        refine wl_val rfl (ex_extract rfl rfl) ?_
        refine wl_val rfl (ex_assign rfl) ?_
        refine wl_val rfl (ex_assign rfl) ?_
        refine wl_nil (nrm_then ?_)
        refine cw_seq ?_
        refine cw_seq ?_
        refine cw_region ?_
        refine wl_val rfl (ex_move rfl) ?_
        refine wl_val rfl (ex_neq rfl rfl) ?_
        refine wl_val rfl (ex_move rfl) ?_
        refine wl_split (t := 57) rfl (fun hs57 => ?_) (fun hs57 => ?_)
        · skip
          refine wl_no rfl rfl rfl rfl rfl rfl ?_
          refine wl_no rfl rfl rfl rfl rfl rfl ?_
          refine wl_no rfl rfl rfl rfl rfl rfl ?_
          refine wl_no rfl rfl rfl rfl rfl rfl ?_
          refine wl_no rfl rfl rfl rfl rfl rfl ?_
          refine wl_val rfl (ex_pick_t rfl rfl) ?_
          refine wl_nil (nrm_then ?_)
          refine cw_true rfl ?_
          refine cw_seq ?_
          refine cw_region ?_
          refine wl_val rfl (ex_assign rfl) ?_
          refine wl_val rfl (ex_assign rfl) ?_
          refine wl_nil (nrm_then ?_)
          refine cw_ret (ret_then (body_ret2 rfl rfl rfl ?_))
          have hkn : k = (get (unpk bs) ⟨0, false⟩ 17).1 := by omega
          subst hkn
          exact ⟨none, 0, 0, [], 171, none, rfl, OwnS.nil _ _ _, rfl, fun _ h => (by cases h), Ge.nil _, unp_no (unp_end (run_out hrun) hP (fun h => hs57 h.1)), hE90⟩
        · skip
          refine wl_go rfl rfl rfl rfl ?_
          refine wl_val rfl (ex_move rfl) ?_
          refine wl_go rfl rfl rfl rfl ?_
          refine wl_val rfl (ex_bstr rfl hs3 Tryd.underlying24 Tryd.underlying5 Tryd.underlying9) ?_
          refine wl_go rfl rfl rfl rfl ?_
          refine wl_val rfl (ex_move rfl) ?_
          refine wl_go rfl rfl rfl rfl ?_
          refine wl_val rfl (ex_bstr rfl (RSl.evo RB.pers ((hE90).any _) hs2) Tryd.underlying24 Tryd.underlying5 Tryd.underlying9) ?_
          refine wl_go rfl rfl rfl rfl ?_
          refine wl_val rfl (ex_neqs rfl rfl) ?_
          refine wl_val rfl (ex_pick_f rfl rfl) ?_
          refine wl_nil (nrm_then ?_)
          refine cw_if rfl (fun hc63 => ?_) (fun hc63 => ?_)
          · skip
            refine cw_seq ?_
            refine cw_region ?_
            refine wl_val rfl (ex_assign rfl) ?_
            refine wl_val rfl (ex_assign rfl) ?_
            refine wl_nil (nrm_then ?_)
            refine cw_ret (ret_then (body_ret2 rfl rfl rfl ?_))
            have hkn : k = (get (unpk bs) ⟨0, false⟩ 17).1 := by omega
            subst hkn
            exact ⟨none, 0, 0, [], 171, none, rfl, OwnS.nil _ _ _, rfl, fun _ h => (by cases h), Ge.nil _, unp_no (unp_end (run_out hrun) hP (fun h => hc63 (by rw [h.2]))), hE90⟩
          · skip
            refine cw_skip (nrm_then ?_)
            refine cw_seq ?_
            refine cw_region ?_
            refine wl_val rfl (ex_move rfl) ?_
            refine wl_val rfl (ex_assign rfl) ?_
            refine wl_val rfl (ex_assign rfl) ?_
            refine wl_nil (nrm_then ?_)
            refine cw_ret (body_ret2 rfl rfl rfl ?_)
            have hkn : k = (get (unpk bs) ⟨0, false⟩ 17).1 := by omega
            have hbe : bs2 = bs := (bstr_inj (rsl_lt hs3) hlt).1 (Decidable.of_not_not hc63)
            subst hbe
            exact ⟨a, k, c, l, 0, ob, rfl, hO94, hll, hrok.ok, hgo2, unp_yes hrok.ok hrok.c hP (by omega), hE90⟩


theorem unpack_ok {X : List Nat} {w : World} {v0 : Value} {bs : List Nat} (hs : RSl 1 RB X w v0 bs) (hl : bs.length ≤ 140737488355328) (ht : Tab w) :
    Calls Tryd.prog 17 #[v0] w (Ret fun r w' => ∃ v out e, r = .tuple #[v, .int .i64 e] ∧ RSl 3 RSmp [] w' v out ∧ UnpackIs bs out e ∧ Evo [] w w') :=
  (unpack_new hs hl ht).mono fun _ _ ⟨v, he, _, _, _, out, e1, _, hv, hO, hn, hb, _, hP, hE⟩ => ⟨v, he, _, out, e1, hv, own_smp hO hn hb (fun _ _ => by simp), hP, hE⟩

end Go.Proofs.YtclmkppiolfgbaaDoor
