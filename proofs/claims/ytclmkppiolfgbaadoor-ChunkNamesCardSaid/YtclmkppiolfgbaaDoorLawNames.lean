/- The law ChunkNames answers true: the numbers of the errors and of the limit, and what stands at the limit. Condition: the table math/bits.deBruijn64tab holds what the text of the program lays there (the card ties it). -/
import Derived.Test.YtclmkppiolfgbaaDoorKq
import Derived.Test.YtclmkppiolfgbaaDoorLv
namespace Go.Proofs.YtclmkppiolfgbaaDoor
open Go.Proofs
open Go.W Go.ChangeShapes Go.WideShapes Go.ChangeAt Go.RowKit
set_option linter.unusedVariables false
attribute [local irreducible] Decidable.decide
set_option linter.unusedSimpArgs false
set_option linter.unusedVariables false
theorem Tryd.goes11 : Goes Tryd.prog 11 := ⟨_, Tryd.func11, by kernel_rfl, by kernel_rfl⟩
theorem Tryd.goes14 : Goes Tryd.prog 14 := ⟨_, Tryd.func14, by kernel_rfl, by kernel_rfl⟩
theorem Tryd.goes19 : Goes Tryd.prog 19 := ⟨_, Tryd.func19, by kernel_rfl, by kernel_rfl⟩
theorem Tryd.goes24 : Goes Tryd.prog 24 := ⟨_, Tryd.func24, by kernel_rfl, by kernel_rfl⟩


abbrev nsm (i : Nat) : Smp := ⟨(i : Int), 0, false⟩
def nms (n : Nat) : List Smp := (List.range n).map nsm
theorem nms_zero : nms 0 = [] := rfl
theorem nms_len (n : Nat) : (nms n).length = n := by simp [nms]
theorem nms_succ (n : Nat) : nms (n + 1) = nms n ++ [nsm n] := by simp [nms, List.range_succ]
theorem nms_get {n k : Nat} (h : k < (nms n).length) : (nms n)[k] = nsm k := by simp [nms]
theorem nsm_ok {k : Nat} (h : k ≤ 1000000) : (nsm k).Ok := ⟨⟨by dsimp only; omega, by dsimp only; omega⟩, by simp⟩
theorem nms_ok {n : Nat} (h : n ≤ 1000000) : ∀ s, s ∈ nms n → s.Ok := fun s hs => by
  obtain ⟨k, hk, rfl⟩ := List.mem_map.1 hs
  exact nsm_ok (by have := List.mem_range.1 hk; omega)
theorem nms_up (n : Nat) : Rises (nms n) := fun k hk => by rw [nms_get, nms_get]; dsimp only; omega
theorem nms_add {k : Nat} (h : k < 100000) : addRes (nms k) (nsm k) = 0 ∧ addL (nms k) (nsm k) = nms (k + 1) := by
  rw [nms_succ]
  refine add_one (by rw [nms_len]; omega) fun ⟨h1, h2⟩ => ?_
  rw [zaf_t h1, nms_get] at h2
  rw [nms_len] at h1 h2
  dsimp only at h2
  omega
theorem nms_valid : Valid (nms 100000) := ⟨by rw [nms_len]; omega, nms_up _, nms_ok (by omega)⟩
theorem pack_lng {l : List Smp} {bs : List Nat} {e : Int} (h : PackIs l bs e) (hl : 100000 < l.length) : bs = [] ∧ e = 1 := by
  rcases h with ⟨_, h⟩ | ⟨h, _⟩ | ⟨h, _⟩
  · exact h
  · omega
  · omega
theorem nms_full : addRes (nms 100000) (nsm 100000) = 1 ∧ addL (nms 100000) (nsm 100000) = nms 100000 := add_full (nms_len _)
theorem nms_full0 : addRes (nms 100000) (nsm 0) = 1 ∧ addL (nms 100000) (nsm 0) = nms 100000 := add_full (nms_len _)
attribute [local irreducible] nms
theorem memA {W : World} {bm : Nat} {l : List Nat} {ob : Option Nat} (h : ob = some bm ∨ Ge W ob) : ∀ y, y ∈ ob.toList → y ∈ bm :: l ∨ W.heap.size ≤ y := fun y hy => by
  rcases h with h | h
  · subst h; simp at hy; left; simp [hy]
  · exact h.mem y hy
theorem memB {W : World} {bm bp : Nat} {o0 ob : Option Nat} (h : ob = o0 ∨ Ge W ob) : ∀ y, y ∈ bp :: ob.toList → y ∈ bm :: bp :: o0.toList ∨ W.heap.size ≤ y := fun y hy => (wr_mem h y hy).imp (List.mem_cons_of_mem _) id
theorem own_ap {w w' : World} {bp : Nat} {o ob ob' : Option Nat} (h1 : Apart o (some bp)) (h2 : Apart o ob) (hl : Lt w o) (hb : ob' = ob ∨ Ge w ob') : Apart o ob' := ap_ob h2 hl hb

theorem walk_ok {w : World} (ht : Tab w) : Calls Tryd.prog 9 #[] w (Ret fun r w' => r = .bool true ∧ Evo [] w w') := by
  refine calls_of_cw (N := 97) Tryd.func9 rfl rfl rfl ?_
  refine cw_seq ?_
  refine cw_region ?_
  refine wl_val rfl (ex_assign rfl) ?_
  refine wl_nil (nrm_then ?_)
  refine cw_seq ?_
  refine cw_seq ?_
  refine cw_region ?_
  refine wl_val rfl (ex_move rfl) ?_
  refine wl_go rfl rfl rfl rfl ?_
  refine wl_call1 (vs := []) Tryd.goes11 rfl (alive_ok (Tab.evo ht (Evo.refl [] w) (by simp))) rfl ?_
  rintro _ w1 ⟨rfl, hw2⟩
  have hE3 := (Evo.refl [] w).then hw2
  refine wl_go rfl rfl rfl rfl ?_
  refine wl_val rfl (ex_notb rfl) ?_
  refine wl_val rfl (ex_pick_f rfl rfl) ?_
  refine wl_nil (nrm_then ?_)
  refine cw_false rfl ?_
  refine cw_skip (nrm_then ?_)
  refine cw_seq ?_
  refine cw_region ?_
  refine wl_make (len := 0) (c := 100001) rfl rfl rfl Tryd.make22 (by omega) (by omega) (by omega) (by decide) (by omega) (by omega) fun bm w5 hm hs7 hw8 => ?_
  have hG9 := Ge.new hE3 hs7
  have hE10 := hE3.then hw8
  refine wl_val rfl (ex_assign rfl) ?_
  refine wl_nil (nrm_then ?_)
  refine cw_seq ?_
  refine cw_region ?_
  refine wl_call1 (vs := []) Tryd.goes21 rfl (new_ok) rfl ?_
  rintro _ w11 ⟨bp, obq0, rfl, hp0, hw12, hgp, hgq⟩
  have hgp1 := Ge.fresh hE10 hgp
  have hgq1 := Ge.fresh hE10 hgq
  have hA13 := Apart.fresh (Lt.own hm) hgp
  have hG14 := Ge.fresh hE10 hgp
  have hA15 := Apart.fresh (Lt.own hm) hgq
  have hG16 := Ge.fresh hE10 hgq
  have hE17 := hE10.then hw12
  have hO18 := hm.evo0 hw12
  obtain ⟨hpk0, ap0, mp0, cp0, bsp0, hW0⟩ := hp0
  refine wl_val rfl (ex_assign rfl) ?_
  refine wl_nil (nrm_then ?_)
  refine cw_seq ?_
  refine cw_seq ?_
  refine cw_region ?_
  refine wl_val rfl (ex_assign rfl) ?_
  refine wl_nil (nrm_then ?_)
  refine cw_block ?_
  refine cw_loop (α := Nat × Option Addr × Nat × Option Nat × Option Nat) ((0, some ⟨bm, 0, none⟩, 100001, some bm, obq0)) (fun x => [(3, .int .i64 (x.1 : Nat)), (1, .slice x.2.1 x.1 x.2.2.1)]) [(2, _)] (fun x wr => Evo (bm :: bp :: obq0.toList) w11 wr ∧ (x.1 ≤ 100000 ∧ OwnS wr 41 3 x.2.1 x.1 x.2.2.1 (srows (nms x.1)) x.2.2.2.1 ∧ Pkr wr bp (nms x.1) x.2.2.2.2 ∧ Apart (some bp) x.2.2.2.1 ∧ Apart x.2.2.2.2 x.2.2.2.1 ∧ (x.2.2.2.1 = some bm ∨ Ge w11 x.2.2.2.1) ∧ (x.2.2.2.2 = obq0 ∨ Ge w11 x.2.2.2.2))) (fun x => 100000 - x.1) ⟨rfl, rfl, trivial⟩ ⟨rfl, trivial⟩ ⟨Evo.refl _ _, ⟨Nat.zero_le _, (by dsimp only; rw [nms_zero]; exact hO18), (by dsimp only; rw [nms_zero]; exact ⟨hpk0, ap0, mp0, cp0, bsp0, hW0.blk, hW0.own, hW0.pk, hW0.ap⟩), hA13.symm, hA15.symm, .inl rfl, .inl rfl⟩⟩ ?_
  rintro ⟨k, a, c, ob, obq⟩ wr19 ⟨hV20, ⟨hk, hO, hP, hwo, hqo, hob, hoq⟩⟩
  show CW _ _ _ _ [(3, .int .i64 (k : Nat)), (1, .slice a k c), (2, _)] _
  try dsimp only at hk
  try dsimp only at hO
  try dsimp only at hP
  try dsimp only at hwo
  try dsimp only at hqo
  try dsimp only at hob
  try dsimp only at hoq
  have hE21 := hE17.step hV20 (fun y hy => by rcases List.mem_cons.1 hy with h | h; { subst h; exact .inr (hG9 _ rfl) }; { exact ge2 hgp1 hgq1 y h })
  have hgo2 := ge_ob hG9 hE17 hob
  have hgq2 := ge_ob hgq1 hE17 hoq
  obtain ⟨hpk, ap, mp, cp, bsp, hW2⟩ := hP
  refine cw_seq ?_
  refine cw_seq ?_
  refine cw_region ?_
  refine wl_val rfl (ex_move rfl) ?_
  refine wl_val rfl (ex_lss rfl rfl) ?_
  refine wl_nil (nrm_then ?_)
  refine cw_if rfl (fun hc17 => ?_) (fun hc17 => ?_)
  · skip
    have hk' : k < 100000 := by omega
    refine cw_skip (nrm_then ?_)
    refine cw_seq ?_
    refine cw_block ?_
    refine cw_seq ?_
    refine cw_region ?_
    refine wl_val rfl (ex_move rfl) ?_
    refine wl_val rfl (ex_move rfl) ?_
    refine wl_val rfl (ex_build (vs := [(0, _)]) Tryd.build41 rfl (cells := [_, _, _]) rfl) ?_
    refine wl_bslice (vs := [_]) rfl Tryd.slice22 rfl rfl rfl rfl fun b22 w23 hO24 hs25 hw26 => ?_
    have hA27 := Apart.new (Lt.own hO) hs25
    have hA28 := Apart.new (Lt.blk hW2.blk) hs25
    have hA29 := Apart.new (Lt.own hW2.own) hs25
    have hG30 := Ge.new hE21 hs25
    have hG31 := Ge.new hV20 hs25
    have hE32 := hE21.then hw26
    have hE33 := hV20.then hw26
    have hO34 := hO.evo0 hw26
    have hB35 := hw26.blk0 hW2.blk
    have hO36 := hW2.own.evo0 hw26
    refine wl_append rfl rfl rfl rfl Tryd.app22_22 hO34 (Src.ofOwn hO24 ⟨by first | rfl | assumption, by first | rfl | assumption, by first | rfl | assumption, trivial⟩) (by omega) fun a1 c1 w39 ob1 hO1 hw42 hob43 => ?_
    have hA44 := hwo.app (Lt.blk hB35) hob43
    have hA45 := hqo.app (Lt.own hO36) hob43
    have hA46 := hA27.symm.app (Lt.own hO24) hob43
    have hG47 := hgo2.app hE32 hob43
    have hE48 := hE32.step hw42 hgo2.mem
    have hE49 := hE33.step hw42 (memA hob)
    have hB50 := hw42.blk hB35 hwo.nmem
    have hO51 := hO36.evo hw42 hqo.own
    have hO52 := hO24.evo hw42 hA27.symm.own
    have hob1 : ob1 = some bm ∨ Ge w11 ob1 := by
      rcases hob43 with h | ⟨g, h, hg⟩
      · subst h; exact hob
      · subst h; exact .inr (Ge.fresh hE33 (fun y hy => by cases hy; exact hg))
    refine wl_val rfl (ex_assign rfl) ?_
    refine wl_nil (nrm_then ?_)
    refine cw_seq ?_
    have hO3 : OwnS w39 41 3 a1 (k + 1) c1 (srows (nms (k + 1))) ob1 := by rw [nms_succ, srows_snoc]; exact hO1
    obtain ⟨_, b3, o3, ha3, -, hc3⟩ := smp_at (own_smp (X := []) hO3 (nms_len _) (nms_ok (by omega)) (fun _ _ => by simp)) (k := k) (by rw [nms_len]; omega)
    rw [nms_get] at hc3
    refine cw_region ?_
    refine wl_val rfl (ex_move rfl) ?_
    refine wl_val rfl (ex_move rfl) ?_
    refine wl_val rfl (ex_move rfl) ?_
    refine wl_val rfl (ex_indexAddrZ (b := b3) (o := o3) (n := k) (by rw [← ha3]; rfl) rfl rfl Tryd.elem22 (by omega)) ?_
    refine wl_val rfl (ex_loadA rfl Tryd.agg41 Tryd.size41 (vs := [_, _, _]) rfl hc3) ?_
    refine wl_call1 (vs := [_, _]) Tryd.goes22 rfl (add_ok (s := nsm k) ⟨hpk, _, _, _, _, hB50, hO51, hW2.pk, hW2.ap⟩ (nsm_ok (by omega)) (ht.evo hE48 (by simp)) (nm4 ht hgp1 hgq2)) rfl ?_
    rintro _ w54 ⟨rfl, obq3, hp3, hw55, hb3⟩
    have hA53 := ap_ob hA45.symm (Lt.own hO3) hb3
    have hgq3 := ge_ob hgq2 hE48 hb3
    have hE56 := hE48.step hw55 (ge2 hgp1 hgq2)
    have hE57 := hE49.step hw55 (memB hoq)
    have hB58 := hO3.evo hw55 (fun g hg => by subst hg; exact nm2 hA44.symm hA45.symm)
    rw [(nms_add hk').2] at hp3
    obtain ⟨hpk3, ap3, mp3, cp3, bsp3, hW3⟩ := hp3
    have hoq3 := ob_trans hoq hE49 hb3
    refine wl_val rfl (ex_neq rfl rfl) ?_
    refine wl_nil (nrm_then ?_)
    refine cw_if rfl (fun hc31 => ?_) (fun hc31 => ?_)
    · skip
      exact absurd (nms_add hk').1 hc31
    · skip
      refine cw_skip (nrm_block (nrm_then ?_))
      refine cw_region ?_
      refine wl_val rfl (ex_move rfl) ?_
      refine wl_val rfl (ex_add_i64 rfl rfl (by omega) (by omega)) ?_
      refine wl_val rfl (ex_assign rfl) ?_
      refine wl_nil (nrm_then ?_)
      refine ⟨(k + 1, a1, c1, ob1, obq3), ?_, ⟨rfl, rfl, trivial⟩, ⟨rfl, trivial⟩, hE57, ?_⟩
      · (try dsimp only); omega
      · skip
        try dsimp only
        exact ⟨by omega, hB58, ⟨hpk3, _, _, _, _, hW3.blk, hW3.own, hW3.pk, hW3.ap⟩, hA44, hA53.symm, hob1, hoq3⟩
  · skip
    have hk9 : k = 100000 := by omega
    subst hk9
    refine cw_exit (ex_then (ex_then (ex_here (nrm_then ?_))))
    refine cw_seq ?_
    refine cw_region ?_
    refine wl_val rfl (ex_move rfl) ?_
    refine wl_call1 (vs := [_]) Tryd.goes13 rfl (pack_new (X := []) (own_smp hO (nms_len 100000) (nms_ok (by omega)) (fun _ _ => by simp)) (by rw [nms_len]; omega) (ht.evo hE21 (by simp))) rfl ?_
    rintro _ w59 ⟨a4, n4, c4, bs4, e4, ob4, rfl, hO4, hbb4, hg4, hP4, hw60⟩
    have hA61 := Apart.fresh (Lt.own hO) hg4
    have hA62 := Apart.fresh (Lt.blk hW2.blk) hg4
    have hA63 := Apart.fresh (Lt.own hW2.own) hg4
    have hG64 := Ge.fresh hE21 hg4
    have hG65 := Ge.fresh hV20 hg4
    have hE66 := hE21.then hw60
    have hE67 := hV20.then hw60
    have hO68 := hO.evo0 hw60
    have hB69 := hw60.blk0 hW2.blk
    have hO70 := hW2.own.evo0 hw60
    obtain ⟨rfl, hkk⟩ := pack_val nms_valid hP4
    have hkl := hkk.len
    have hfl := form_len (nms 100000)
    rw [nms_len] at hfl
    refine wl_val rfl (ex_move rfl) ?_
    refine wl_val rfl (ex_extract rfl rfl) ?_
    refine wl_val rfl (ex_extract rfl rfl) ?_
    refine wl_val rfl (ex_assign rfl) ?_
    refine wl_val rfl (ex_assign rfl) ?_
    refine wl_nil (nrm_then ?_)
    refine cw_seq ?_
    refine cw_region ?_
    refine wl_val rfl (ex_move rfl) ?_
    refine wl_call1 (vs := [_]) Tryd.goes19 rfl (count_ok (rbs (X := []) hO4 hbb4 (fun _ _ => by simp)) (by omega) (ht.evo hE66 (by simp))) rfl ?_
    rintro _ w71 ⟨o5, e5, rfl, hU5, hw72⟩
    have hE73 := hE66.then hw72
    have hE74 := hE67.then hw72
    have hO75 := hO68.evo0 hw72
    have hB76 := hw72.blk0 hB69
    have hO77 := hO70.evo0 hw72
    have hO78 := hO4.evo0 hw72
    have hb5 := UnpackIs.back nms_valid hkk hU5
    have he5 := hb5.1
    subst he5
    have hml : o5.length = 100000 := by rw [hb5.2, List.length_map, nms_len]
    refine wl_val rfl (ex_move rfl) ?_
    refine wl_val rfl (ex_extract rfl rfl) ?_
    refine wl_val rfl (ex_extract rfl rfl) ?_
    refine wl_val rfl (ex_assign rfl) ?_
    refine wl_val rfl (ex_assign rfl) ?_
    refine wl_nil (nrm_then ?_)
    refine cw_seq ?_
    refine cw_region ?_
    refine wl_val rfl (ex_move rfl) ?_
    refine wl_val rfl (ex_build (vs := [(0, _)]) Tryd.build41 rfl (cells := [_, _, _]) rfl) ?_
    refine wl_bslice (vs := [_]) rfl Tryd.slice22 rfl rfl rfl rfl fun b79 w80 hO81 hs82 hw83 => ?_
    have hA84 := Apart.new (Lt.own hO75) hs82
    have hA85 := Apart.new (Lt.blk hB76) hs82
    have hA86 := Apart.new (Lt.own hO77) hs82
    have hA87 := Apart.new (Lt.own hO78) hs82
    have hG88 := Ge.new hE73 hs82
    have hG89 := Ge.new hE74 hs82
    have hE90 := hE73.then hw83
    have hE91 := hE74.then hw83
    have hO92 := hO75.evo0 hw83
    have hB93 := hw83.blk0 hB76
    have hO94 := hO77.evo0 hw83
    have hO95 := hO78.evo0 hw83
    refine wl_append rfl rfl rfl rfl Tryd.app22_22 hO92 (Src.ofOwn hO81 ⟨by first | rfl | assumption, by first | rfl | assumption, by first | rfl | assumption, trivial⟩) (by omega) fun a2 c2 w98 ob2 hO2 hw101 hob102 => ?_
    have hA103 := hwo.app (Lt.blk hB93) hob102
    have hA104 := hqo.app (Lt.own hO94) hob102
    have hA105 := hA61.symm.app (Lt.own hO95) hob102
    have hA106 := hA84.symm.app (Lt.own hO81) hob102
    have hG107 := hgo2.app hE90 hob102
    have hE108 := hE90.step hw101 hgo2.mem
    have hE109 := hE91.step hw101 (memA hob)
    have hB110 := hw101.blk hB93 hwo.nmem
    have hO111 := hO94.evo hw101 hqo.own
    have hO112 := hO95.evo hw101 hA61.symm.own
    have hO113 := hO81.evo hw101 hA84.symm.own
    refine wl_val rfl (ex_assign rfl) ?_
    refine wl_nil (nrm_then ?_)
    refine cw_seq ?_
    have hO7 : OwnS w98 41 3 a2 (100000 + 1) c2 (srows (nms (100000 + 1))) ob2 := by rw [nms_succ, srows_snoc]; exact hO2
    refine cw_region ?_
    refine wl_val rfl (ex_move rfl) ?_
    refine wl_call1 (vs := [_]) Tryd.goes13 rfl (pack_ok (X := []) (own_smp hO7 (nms_len 100001) (nms_ok (by omega)) (fun _ _ => by simp)) (by rw [nms_len]; omega) (ht.evo hE108 (by simp))) rfl ?_
    rintro _ w114 ⟨v6, bs6, e6, rfl, hs6, hP6, hw115⟩
    have hE116 := hE108.then hw115
    have hE117 := hE109.then hw115
    have hB118 := hw115.blk0 hB110
    have hO119 := hO111.evo0 hw115
    have hO120 := hO112.evo0 hw115
    have hO121 := hO7.evo0 hw115
    obtain ⟨rfl, rfl⟩ := pack_lng hP6 (by rw [nms_len]; omega)
    obtain ⟨a6, c6, rfl, -, -⟩ := hs6
    refine wl_val rfl (ex_move rfl) ?_
    refine wl_val rfl (ex_extract rfl rfl) ?_
    refine wl_val rfl (ex_extract rfl rfl) ?_
    refine wl_val rfl (ex_assign rfl) ?_
    refine wl_val rfl (ex_assign rfl) ?_
    refine wl_nil (nrm_then ?_)
    refine cw_seq ?_
    refine cw_region ?_
    refine wl_val rfl (ex_move rfl) ?_
    refine wl_val rfl (ex_eql rfl rfl) ?_
    refine wl_val rfl (ex_move rfl) ?_
    refine wl_split (t := 53) rfl (fun hs53 => ?_) (fun hs53 => ?_)
    · skip
      refine wl_go rfl rfl rfl rfl ?_
      refine wl_val rfl (ex_move rfl) ?_
      refine wl_go rfl rfl rfl rfl ?_
      refine wl_val rfl (ex_eql rfl rfl) ?_
      refine wl_val rfl (ex_pick_t rfl rfl) ?_
      refine wl_val rfl (ex_move rfl) ?_
      refine wl_split (t := 57) rfl (fun hs57 => ?_) (fun hs57 => ?_)
      · skip
        refine wl_go rfl rfl rfl rfl ?_
        refine wl_val rfl (ex_move rfl) ?_
        refine wl_go rfl rfl rfl rfl ?_
        refine wl_val rfl (ex_eql rfl rfl) ?_
        refine wl_val rfl (ex_pick_t rfl rfl) ?_
        refine wl_val rfl (ex_move rfl) ?_
        refine wl_split (t := 61) rfl (fun hs61 => ?_) (fun hs61 => ?_)
        · skip
          refine wl_go rfl rfl rfl rfl ?_
          refine wl_val rfl (ex_move rfl) ?_
          refine wl_go rfl rfl rfl rfl ?_
          refine wl_val rfl (ex_eql rfl rfl) ?_
          refine wl_val rfl (ex_pick_t rfl rfl) ?_
          refine wl_val rfl (ex_move rfl) ?_
          refine wl_split (t := 65) rfl (fun hs65 => ?_) (fun hs65 => ?_)
          · skip
            refine wl_go rfl rfl rfl rfl ?_
            refine wl_val rfl (ex_move rfl) ?_
            refine wl_go rfl rfl rfl rfl ?_
            refine wl_val rfl (ex_len_slice rfl Tryd.underlying24 rfl) ?_
            refine wl_go rfl rfl rfl rfl ?_
            refine wl_val rfl (ex_eql rfl rfl) ?_
            refine wl_val rfl (ex_pick_t rfl rfl) ?_
            refine wl_val rfl (ex_move rfl) ?_
            refine wl_split (t := 70) rfl (fun hs70 => ?_) (fun hs70 => ?_)
            · skip
              obtain ⟨_, b7, o7, ha7, -, hc7⟩ := smp_at (own_smp (X := []) hO121 (nms_len _) (nms_ok (by omega)) (fun _ _ => by simp)) (k := 100000) (by rw [nms_len]; omega)
              rw [nms_get] at hc7
              refine wl_go rfl rfl rfl rfl ?_
              refine wl_val rfl (ex_move rfl) ?_
              refine wl_go rfl rfl rfl rfl ?_
              refine wl_val rfl (ex_move rfl) ?_
              refine wl_go rfl rfl rfl rfl ?_
              refine wl_val rfl (ex_indexAddrZ (b := b7) (o := o7) (n := 100000) (by rw [← ha7]; rfl) rfl rfl Tryd.elem22 (by omega)) ?_
              refine wl_go rfl rfl rfl rfl ?_
              refine wl_val rfl (ex_loadA rfl Tryd.agg41 Tryd.size41 (vs := [_, _, _]) rfl hc7) ?_
              refine wl_go rfl rfl rfl rfl ?_
              refine wl_call1 (vs := [_, _]) Tryd.goes22 rfl (add_ok (s := nsm 100000) ⟨hpk, _, _, _, _, hB118, hO119, hW2.pk, hW2.ap⟩ (nsm_ok (by omega)) (ht.evo hE116 (by simp)) (nm4 ht hgp1 hgq2)) rfl ?_
              rintro _ w124 ⟨rfl, obq4, hp4, hw125, hb4⟩
              have hA122 := ap_ob hA63.symm (Lt.own hO120) hb4
              have hA123 := ap_ob hA104.symm (Lt.own hO121) hb4
              have hgq4 := ge_ob hgq2 hE116 hb4
              have hE126 := hE116.step hw125 (ge2 hgp1 hgq2)
              have hB127 := hO120.evo hw125 (fun g hg => by subst hg; exact nm2 hA62.symm hA63.symm)
              have hB128 := hO121.evo hw125 (fun g hg => by subst hg; exact nm2 hA103.symm hA104.symm)
              rw [nms_full.2] at hp4
              obtain ⟨hpk4, ap4, mp4, cp4, bsp4, hW4⟩ := hp4
              refine wl_go rfl rfl rfl rfl ?_
              refine wl_val rfl (ex_eql rfl rfl) ?_
              refine wl_val rfl (ex_pick_t rfl rfl) ?_
              refine wl_val rfl (ex_move rfl) ?_
              refine wl_split (t := 78) rfl (fun hs78 => ?_) (fun hs78 => ?_)
              · skip
                obtain ⟨_, b8, o8, ha8, -, hc8⟩ := smp_at (own_smp (X := []) hB128 (nms_len _) (nms_ok (by omega)) (fun _ _ => by simp)) (k := 0) (by rw [nms_len]; omega)
                rw [nms_get] at hc8
                refine wl_go rfl rfl rfl rfl ?_
                refine wl_val rfl (ex_move rfl) ?_
                refine wl_go rfl rfl rfl rfl ?_
                refine wl_val rfl (ex_move rfl) ?_
                refine wl_go rfl rfl rfl rfl ?_
                refine wl_val rfl (ex_indexAddrZ (b := b8) (o := o8) (n := 0) (by rw [← ha8]; rfl) rfl rfl Tryd.elem22 (by omega)) ?_
                refine wl_go rfl rfl rfl rfl ?_
                refine wl_val rfl (ex_loadA rfl Tryd.agg41 Tryd.size41 (vs := [_, _, _]) rfl hc8) ?_
                refine wl_go rfl rfl rfl rfl ?_
                refine wl_call1 (vs := [_, _]) Tryd.goes22 rfl (add_ok (s := nsm 0) ⟨hpk4, _, _, _, _, hW4.blk, hW4.own, hW4.pk, hW4.ap⟩ (nsm_ok (by omega)) (ht.evo hE126 (by simp)) (nm4 ht hgp1 hgq4)) rfl ?_
                rintro _ w131 ⟨rfl, obq5, hp5, hw132, hb5⟩
                have hA129 := ap_ob hA122 (Lt.own hB127) hb5
                have hA130 := ap_ob hA123 (Lt.own hB128) hb5
                have hgq5 := ge_ob hgq4 hE126 hb5
                have hE133 := hE126.step hw132 (ge2 hgp1 hgq4)
                have hB134 := hB127.evo hw132 (fun g hg => by subst hg; exact nm2 hA62.symm hA122)
                have hB135 := hB128.evo hw132 (fun g hg => by subst hg; exact nm2 hA103.symm hA123)
                rw [nms_full0.2] at hp5
                obtain ⟨hpk5, ap5, mp5, cp5, bsp5, hW5⟩ := hp5
                refine wl_go rfl rfl rfl rfl ?_
                refine wl_val rfl (ex_eql rfl rfl) ?_
                refine wl_val rfl (ex_pick_t rfl rfl) ?_
                refine wl_val rfl (ex_move rfl) ?_
                refine wl_split (t := 86) rfl (fun hs86 => ?_) (fun hs86 => ?_)
                · skip
                  refine wl_go rfl rfl rfl rfl ?_
                  refine wl_val rfl (ex_move rfl) ?_
                  refine wl_go rfl rfl rfl rfl ?_
                  refine wl_call1 (vs := [_]) Tryd.goes23 rfl (len_ok ⟨hpk5, _, _, _, _, hW5.blk, hW5.own, hW5.pk, hW5.ap⟩) rfl ?_
                  rintro _ w136 ⟨rfl, hw137⟩
                  have hE138 := hE133.then hw137
                  have hO139 := hB134.evo0 hw137
                  have hO140 := hB135.evo0 hw137
                  have hB141 := hw137.blk0 hW5.blk
                  have hO142 := hW5.own.evo0 hw137
                  refine wl_go rfl rfl rfl rfl ?_
                  refine wl_val rfl (ex_eql rfl rfl) ?_
                  refine wl_val rfl (ex_pick_t rfl rfl) ?_
                  refine wl_val rfl (ex_move rfl) ?_
                  refine wl_split (t := 91) rfl (fun hs91 => ?_) (fun hs91 => ?_)
                  · skip
                    refine wl_go rfl rfl rfl rfl ?_
                    refine wl_val rfl (ex_move rfl) ?_
                    refine wl_go rfl rfl rfl rfl ?_
                    refine wl_call1 (vs := [_]) Tryd.goes24 rfl (bytes_ok ⟨hpk5, _, _, _, _, hB141, hO142, hW5.pk, hW5.ap⟩) rfl ?_
                    rintro _ w143 ⟨a9, n9, c9, bs9, ob9, rfl, hO9, hp9, hg9, hw144⟩
                    have hE145 := hE138.then hw144
                    have hO146 := hO139.evo0 hw144
                    have hO147 := hO140.evo0 hw144
                    have hB148 := hw144.blk0 hB141
                    have hO149 := hO142.evo0 hw144
                    refine wl_go rfl rfl rfl rfl ?_
                    refine wl_val rfl (ex_move rfl) ?_
                    refine wl_go rfl rfl rfl rfl ?_
                    refine wl_call1 (vs := [_, _]) Tryd.goes14 rfl (same_ok (Y := []) (rbs (X := []) hO9 hp9.lt (fun _ _ => by simp)) (rbs (X := []) hO146 hbb4 (fun _ _ => by simp))) rfl ?_
                    rintro _ w150 ⟨rfl, hw151⟩
                    have hE152 := hE145.then hw151
                    have hO153 := hO146.evo0 hw151
                    have hO154 := hO147.evo0 hw151
                    have hB155 := hw151.blk0 hB148
                    have hO156 := hO149.evo0 hw151
                    refine wl_val rfl (ex_pick_t rfl rfl) ?_
                    refine wl_val rfl (ex_assign rfl) ?_
                    refine wl_nil (nrm_then ?_)
                    refine cw_ret (body_ret1 rfl rfl ?_)
                    exact ⟨by rw [decide_eq_true (PacksN.uniq hp9 hkk)], hE152⟩
                  · skip
                    exact absurd (by rw [nms_len]; rfl) hs91
                · skip
                  exact absurd nms_full0.1 hs86
              · skip
                exact absurd nms_full.1 hs78
            · skip
              exact absurd rfl hs70
          · skip
            exact absurd rfl hs65
        · skip
          exfalso; omega
      · skip
        exact absurd rfl hs57
    · skip
      exact absurd rfl hs53

set_option maxRecDepth 100000 in
theorem contract (H : Type) (enc : TypeId × Value → H) (W : World) (base : Nat) (args : Array Value) (ds gs : List (DataW H)) (before : List MemPlace)
    (hval : ∀ (j : Nat) t v, Tryd.f9.params[j]? = some t → args[j]? = some v → Value.okWide Tryd.prog W .any base t v)
    (hW : DataW.Whole enc Tryd.prog Tryd.f9.params.toList Rows.chunkNamesSpec.vars false W args.toList ds gs before)
    (hsz : (DataW.weightsEach Tryd.prog (Tryd.f9.params.toList ++ Rows.chunkNamesSpec.plain.varTypes Tryd.prog) (ds ++ gs)).all (· ≤ reachBytes) = true) (hL : laidMetH Tryd.prog laidL W) :
    Calls Tryd.prog 9 args W fun e W' => ∃ v, e = .returned v ∧ Rows.chunkNamesSpec.post enc Tryd.prog Tryd.f9 false true false false W args v W' := by
  have hW' := hW
  obtain ⟨p, q, hA0, hV, rfl, hfz, hnd⟩ := hW
  have hA : DataW.TrodAll enc Tryd.prog W 0 (fun _ => true) true Tryd.f9.params.toList args.toList ds p := hA0
  rw [Tryd.params9] at hA hval hsz
  obtain ⟨hn1, rfl, rfl⟩ := trodAll_nil hA
  obtain rfl : args = #[] := by cases args; simp_all
  obtain ⟨rfl, rfl⟩ := trodVars_none hV
  have hT : Tab W := table hL
  refine (walk_ok hT).mono fun e W' ⟨v, he, hv, bel⟩ => ?_
  subst he hv
  exact ⟨_, rfl, _, _, _, [], _, [], hW', trodAll_mk1 (shut_bool Tryd.underlying4 _), trodAll_mk0, rfl, bel.below.frame _, fun h => by cases h⟩
theorem laid_met (os : Os) : laidMet Tryd.prog laidL ((laidWorld os #[]).forCall (fun _ _ => 0) ⟨#[], #[], []⟩).memory :=
  laidMet_of_run' 8 (by kernel_rfl) (by kernel_rfl)
theorem reads (os : Os) {H : Type} (enc : TypeId × Value → H) : ∃ places, DataW.whole enc Tryd.prog ((laidWorld os #[]).forCall (fun _ _ => 0) ⟨#[], #[], []⟩).memory Tryd.f9.params.toList Rows.chunkNamesSpec.vars false (#[] : Array Value).toList 8 = some ([], [], places) :=
  ⟨[], by kernel_rfl⟩
set_option maxRecDepth 100000 in
theorem lifted (os : Os) (started : os.Started) (H : Type) (enc : TypeId × Value → H) (F : Stop.Interp) :
    ReturnsInHanded {} Tryd.checked os 9 .any ((OpenSpec.ofChange Rows.chunkNamesSpec).preRow enc Tryd.prog Tryd.f9 Rows.chunkNamesRow.domain false Rows.chunkNamesRow.laid) (((OpenSpec.ofChange Rows.chunkNamesSpec).at F).post enc Tryd.prog Tryd.f9 false true false false) := by
  obtain ⟨places, hx⟩ := reads os enc
  refine returnsInHanded_of_row (C := Tryd.checked) (s := OpenSpec.ofChange Rows.chunkNamesSpec) own started (by kernel_rfl) Tryd.func9
    (witness_row_at (enc := enc) (C := Tryd.checked) false (laidWorld os #[]) #[] rfl (by kernel_rfl) (by kernel_rfl) (by kernel_rfl)
      (OpenSpec.preRow_of_cond 8 hx (by kernel_rfl) (fun k hk => by cases hk) (by kernel_rfl) (laid_met os))) ?_
  intro W base args ds gs before hval hW _ _ hsz hL _ _
  exact contract H enc W base args ds gs before hval hW hsz hL
theorem said : Rows.ChunkNamesSaid :=
  OpenClaim.holds_of_cond 9 Tryd.f9 rfl rfl rfl rfl rfl rfl rfl ⟨rfl, rfl, rfl, rfl, rfl⟩ rfl rfl rfl rfl rfl (by kernel_rfl) Tryd.func9 (by kernel_rfl)
    (of_decide_eq_true (by kernel_rfl)) (by unfold Func.isWrapper; first | (rw [if_pos (by decide +kernel)]; kernel_rfl) | (rw [if_neg (by decide +kernel)]; exact ⟨rfl, rfl⟩))
    (fun os started H enc _ F => by rw [OpenClaim.pre_eq_preRow]; exact lifted os started H enc F)
theorem plain (f : FuncId) (fn : Func) (hf : Tryd.pinned.checked.prog.funcNamed "weir/weirlaw17.ChunkNames" = some f) (hfn : Tryd.pinned.checked.prog.funcs[f]? = some fn) :
    false = Tryd.pinned.checked.prog.looks [] ∧ ∀ (j : Nat) t, fn.params[j]? = some t → Tryd.pinned.checked.prog.wantsStandIn t = false := by
  obtain rfl : f = 9 := Option.some.inj ((show Tryd.prog.funcNamed "weir/weirlaw17.ChunkNames" = some 9 by kernel_rfl).symm.trans hf) |>.symm
  obtain rfl : fn = Tryd.f9 := (Option.some.inj (Tryd.func9.symm.trans hfn)).symm
  refine ⟨looks_off, fun j t ht => ?_⟩
  rw [Tryd.params9] at ht
  simp at ht

theorem chunkNames_card : Rows.ChunkNamesCardSaid :=
  Claim7.holds_tied_plain_at .later [] _ _ _ _ said (fun _ h => by cases h) (by kernel_rfl) (fun _ h => by cases h) chunkNames_row_tie rfl ⟨rfl, rfl⟩ (by kernel_rfl) rfl plain (by kernel_rfl)
#print axioms chunkNames_card

end Go.Proofs.YtclmkppiolfgbaaDoor
