import Derived.Test.YtclmkppiolfgbaaDoorLw
namespace Go.Proofs.YtclmkppiolfgbaaDoor
open Go.Proofs
open Go.W
attribute [local irreducible] Decidable.decide
set_option linter.unusedSimpArgs false
set_option linter.unusedVariables false
theorem Tryd.agg22 : aggB Tryd.prog 22 = some false := by kernel_rfl
theorem Tryd.make47 : makeB Tryd.prog 47 = some (22, 1, 24, #[.slice none 0 0]) := by kernel_rfl
theorem Tryd.make48 : makeB Tryd.prog 48 = some (24, 1, 24, #[.slice none 0 0]) := by kernel_rfl
theorem Tryd.size22 : sizeB Tryd.prog 22 = some 1 := by kernel_rfl


def mkB (k : Nat) : List Value := [bv (k % 256)]
theorem mkB_len (k : Nat) : (mkB k).length = 1 := rfl
theorem mkB_one (k : Nat) : ∀ u, u ∈ mkB k → u.oneCell' = true := fun u hu => by rw [List.mem_singleton.1 hu]; rfl
theorem slv {s : Sl} {g : Nat} (h : s.a = some ⟨g, 0, none⟩) : s.v = .slice (some ⟨g, 0, none⟩) s.n s.c := by unfold Sl.v; rw [h]
def mkS (k : Nat) : List Value := srow ⟨(k : Int), 0, false⟩
theorem mkS_len (k : Nat) : (mkS k).length = 3 := rfl
theorem mkS_one (k : Nat) : ∀ u, u ∈ mkS k → u.oneCell' = true := fun u hu => by
  simp [mkS, srow] at hu; rcases hu with rfl | rfl | rfl <;> rfl

theorem apart_ok {w : World} {al : Option Addr} {N cl : Nat} {obl : Option Nat} {S : Nat → Sl} {xs : Nat → List Value} (hL : OwnS w 24 1 al N cl (sv N S) obl) (hF : Fam w 5 1 N S xs) (hap : ∀ k, k < N → Apart obl (S k).ob) (hn : ∀ k, k < N → (S k).n ≤ 1000000000) (hN : N ≤ 1000000) :
    Calls Tryd.prog 25 #[.slice al N cl] w (Ret fun r w' => r = .bool true ∧ Evo (fobs N S) w w') := by
  have hxl : ∀ k, k < N → (xs k).length = (S k).n * 1 := fun k hk => (hF.own k hk).1
  have hF0 := fam_zero (mk := mkB) hF
  refine calls_of_cw (N := 110) Tryd.func25 rfl rfl rfl ?_
  refine cw_seq ?_
  refine cw_region ?_
  refine wl_val rfl (ex_assign rfl) ?_
  refine wl_nil (nrm_then ?_)
  refine cw_seq ?_
  refine cw_region ?_
  refine wl_val rfl (ex_move rfl) ?_
  refine wl_val rfl (ex_len_slice rfl Tryd.underlying48 rfl) ?_
  refine wl_make (len := N) (c := N) rfl rfl rfl Tryd.make48 (by omega) (by omega) (by omega) (by decide) (by omega) (by omega) fun bg w2 hG hs4 hw5 => ?_
  have hA6 := Apart.new (Lt.own hL) hs4
  have hG7 := Ge.new (Evo.refl (fobs N S) w) hs4
  have hE8 := (Evo.refl (fobs N S) w).then hw5
  have hO9 := hL.evo0 hw5
  have hF10 := hF0.evo0 hw5
  rw [gv_zero N S] at hG
  have hgF : ∀ k, k < N → Apart (some bg) (S k).ob := fun k hk => (Apart.fresh (hF.lt hk) hG7).symm
  have hLX : ∀ g, obl = some g → g ∉ bg :: fobs N S := fun g hg hm => by rcases List.mem_cons.1 hm with h | h; { exact hA6 g hg (by rw [h]) }; { exact fobs_nmem hap g hg h }
  refine wl_val rfl (ex_assign rfl) ?_
  refine wl_nil (nrm_then ?_)
  refine cw_seq ?_
  refine cw_seq ?_
  refine cw_region ?_
  refine wl_val rfl (ex_assign rfl) ?_
  refine wl_nil (nrm_then ?_)
  refine cw_block ?_
  refine cw_loop (α := Nat) (0) (fun i => [(4, .int .i64 (i : Nat))]) [(0, _), (2, _), (3, _)] (fun i wr => Evo (bg :: fobs N S) w2 wr ∧ (i ≤ N ∧ Fam wr 5 1 N S (xs0 S xs mkB i) ∧ OwnS wr 24 1 (some ⟨bg, 0, none⟩) N N (gv N S i) (some bg))) (fun i => N - i) ⟨rfl, trivial⟩ ⟨rfl, rfl, rfl, trivial⟩ ⟨Evo.refl _ _, ⟨Nat.zero_le _, hF10, hG⟩⟩ ?_
  rintro i wr11 ⟨hV12, ⟨hi, hF1, hG1⟩⟩
  show CW _ _ _ _ [(4, _), (0, _), (2, _), (3, _)] _
  have hE13 := hE8.step hV12 (fun y hy => by rcases List.mem_cons.1 hy with h | h; { subst h; exact .inr (hG7 _ rfl) }; { exact .inl h })
  have hB14 := hO9.evo hV12 (hLX)
  refine cw_seq ?_
  refine cw_seq ?_
  refine cw_region ?_
  refine wl_val rfl (ex_move rfl) ?_
  refine wl_val rfl (ex_move rfl) ?_
  refine wl_val rfl (ex_len_slice rfl Tryd.underlying48 rfl) ?_
  refine wl_val rfl (ex_lss rfl rfl) ?_
  refine wl_nil (nrm_then ?_)
  refine cw_if rfl (fun hc16 => ?_) (fun hc16 => ?_)
  · skip
    have hi' : i < N := by omega
    have hni := hn i hi'
    refine cw_skip (nrm_then ?_)
    refine cw_seq ?_
    refine cw_block ?_
    refine cw_seq ?_
    refine cw_seq ?_
    refine cw_region ?_
    refine wl_val rfl (ex_assign rfl) ?_
    refine wl_nil (nrm_then ?_)
    refine cw_block ?_
    refine cw_loop (α := Nat) (0) (fun j => [(5, .int .i64 (j : Nat))]) [(0, _), (2, _), (3, _), (4, _)] (fun j wr => Evo (S i).ob.toList wr11 wr ∧ (j ≤ (S i).n ∧ Fam wr 5 1 N S (xs1 S xs mkB 1 i j))) (fun j => (S i).n - j) ⟨rfl, trivial⟩ ⟨rfl, rfl, rfl, rfl, trivial⟩ ⟨Evo.refl _ _, ⟨Nat.zero_le _, fam_start hF1⟩⟩ ?_
    rintro j wr15 ⟨hV16, ⟨hj, hF2⟩⟩
    show CW _ _ _ _ [(5, _), (0, _), (2, _), (3, _), (4, _)] _
    have hE17 := hE13.step hV16 (fun y hy => .inl (fobs_in hi' y hy))
    have hE18 := hV12.step hV16 (fun y hy => .inl (List.mem_cons_of_mem _ (fobs_in hi' y hy)))
    have hB19 := hB14.evo hV16 ((hap i hi').own)
    have hB20 := hG1.evo hV16 ((hgF i hi').own)
    refine cw_seq ?_
    refine cw_seq ?_
    obtain ⟨gl6, hgl6, hal6, hcl6⟩ := own_cell1 hB19 (sv_get hi')
    refine cw_region ?_
    refine wl_val rfl (ex_move rfl) ?_
    refine wl_val rfl (ex_move rfl) ?_
    refine wl_val rfl (ex_move rfl) ?_
    refine wl_val rfl (ex_indexAddr (n := i) (by first | (rw [hal6]; done) | (rw [hal6]; rfl)) rfl Tryd.elem48 (by omega)) ?_
    refine wl_val rfl (ex_load1 rfl Tryd.agg24 hcl6) ?_
    refine wl_val rfl (ex_len_slice rfl Tryd.underlying24 rfl) ?_
    refine wl_val rfl (ex_lss rfl rfl) ?_
    refine wl_nil (nrm_then ?_)
    refine cw_if rfl (fun hc25 => ?_) (fun hc25 => ?_)
    · skip
      refine cw_skip (nrm_then ?_)
      refine cw_seq ?_
      refine cw_block ?_
      obtain ⟨gl8, hgl8, hal8, hcl8⟩ := own_cell1 hB19 (sv_get hi')
      have ho8 := (hF2).own i hi'
      obtain ⟨ge8, cu8, hge8, hae8, hce8, hse8, -⟩ := ho8.at (by omega)
      refine cw_region ?_
      refine wl_val rfl (ex_move rfl) ?_
      refine wl_val rfl (ex_move rfl) ?_
      refine wl_val rfl (ex_indexAddr (n := i) (by first | (rw [hal8]; done) | (rw [hal8]; rfl)) rfl Tryd.elem48 (by omega)) ?_
      refine wl_val rfl (ex_load1 rfl Tryd.agg24 hcl8) ?_
      refine wl_val rfl (ex_move rfl) ?_
      refine wl_val rfl (ex_move rfl) ?_
      refine wl_val rfl (ex_conv rfl Tryd.underlying3 Tryd.underlying5) ?_
      rw [u8_wrap]
      refine wl_val rfl (ex_indexAddr (n := j) (congrArg some (slv hae8)) rfl Tryd.elem24 (by omega)) ?_
      refine wl_storeG (n := 1) rfl rfl Tryd.size5 rfl (mkB_one i) hce8 (inbN ho8 hse8 (by omega)) fun w8 hb8 hw8 => ?_
      replace hw8 := evo_ob hge8 hw8
      have hF8 := fam_mark hF2 hi' (by omega) (hxl i hi') (mkB_len i) (ho8.put (k := j) hge8 hce8 (by omega) (by omega) (mkB_len i) hb8) hw8
      have hE21 := hE17.step hw8 (fun y hy => .inl (fobs_in hi' y hy))
      have hE22 := hE18.step hw8 (fun y hy => .inl (List.mem_cons_of_mem _ (fobs_in hi' y hy)))
      have hE23 := hV16.step hw8 (fun y hy => .inl hy)
      have hB24 := hB19.evo hw8 ((hap i hi').own)
      have hB25 := hB20.evo hw8 ((hgF i hi').own)
      refine wl_nil (nrm_block (nrm_then ?_))
      refine cw_region ?_
      refine wl_val rfl (ex_move rfl) ?_
      refine wl_val rfl (ex_add_i64 rfl rfl (by omega) (by omega)) ?_
      refine wl_val rfl (ex_assign rfl) ?_
      refine wl_nil (nrm_same ?_)
      refine ⟨j + 1, ?_, ⟨rfl, trivial⟩, ⟨rfl, rfl, rfl, rfl, trivial⟩, hE23, ?_⟩
      · omega
      · skip
        exact ⟨by omega, hF8⟩
    · skip
      refine cw_exit (ex_then (ex_then (ex_here (nrm_then ?_))))
      obtain ⟨gl9, hgl9, hal9, hcl9⟩ := own_cell1 hB19 (sv_get hi')
      refine cw_region ?_
      refine wl_val rfl (ex_move rfl) ?_
      refine wl_val rfl (ex_move rfl) ?_
      refine wl_val rfl (ex_move rfl) ?_
      refine wl_val rfl (ex_move rfl) ?_
      refine wl_val rfl (ex_indexAddr (n := i) (by first | (rw [hal9]; done) | (rw [hal9]; rfl)) rfl Tryd.elem48 (by omega)) ?_
      refine wl_val rfl (ex_load1 rfl Tryd.agg24 hcl9) ?_
      refine wl_val rfl (ex_indexAddr (n := i) rfl rfl Tryd.elem48 (by omega)) ?_
      obtain ⟨g35, cur26, hg27, hx28, hcu29, hcs30, -⟩ := hB20.at (by omega)
      cases hx28
      refine wl_store1L rfl rfl (rfl) Tryd.size24 hcu29 (hB20.inb hcs30 (k := i) (j := 0) (by omega) (by omega) (by omega)) fun w31 hB32 hw33 => ?_
      replace hw33 := evo_ob hg27 hw33
      have hO34 := hB20.set' hg27 hcu29 hB32
      have hE36 := hE17.step hw33 hG7.mem
      have hE37 := hE18.step hw33 (fun y hy => .inl (by simp at hy; simp [hy]))
      have hO39 := hB19.evo hw33 hA6.own
      have hF40 := hF2.evo hw33 fun k hk => (hgF k hk).symm.own
      refine wl_nil (nrm_block (nrm_then ?_))
      refine cw_region ?_
      refine wl_val rfl (ex_move rfl) ?_
      refine wl_val rfl (ex_add_i64 rfl rfl (by omega) (by omega)) ?_
      refine wl_val rfl (ex_assign rfl) ?_
      refine wl_nil (nrm_same ?_)
      refine ⟨i + 1, ?_, ⟨rfl, trivial⟩, ⟨rfl, rfl, rfl, trivial⟩, hE37, ?_⟩
      · omega
      · skip
        exact ⟨by omega, fam_end hF40 (by omega) (hxl i hi'), by rw [← gv_set]; have h := hO34; rw [Nat.mul_one, Nat.zero_add] at h; exact h⟩
  · skip
    refine cw_exit (ex_then (ex_then (ex_here (nrm_then ?_))))
    refine cw_seq ?_
    refine cw_seq ?_
    have hiN : i = N := by omega
    have hF3 := hF1
    rw [hiN] at hF3
    have hP0 := pair_start (fam_all hF3)
    have hG3 := hG1
    rw [hiN, gv_all] at hG3
    have hltg := Lt.own hG3
    have hltl := Lt.own hB14
    refine cw_region ?_
    refine wl_val rfl (ex_assign rfl) ?_
    refine wl_nil (nrm_then ?_)
    refine cw_block ?_
    refine cw_loop (α := Nat × (Nat → Sl)) ((0, S)) (fun x => [(6, .int .i64 (x.1 : Nat))]) [(0, _), (2, _), (3, _)] (fun x wr => Evo (bg :: fobs N S) wr11 wr ∧ (x.1 ≤ 80 ∧ Pair wr 5 1 N S x.2 mkB ∧ OwnS wr 24 1 (some ⟨bg, 0, none⟩) N N (sv N x.2) (some bg) ∧ (∀ q, q < N → (x.2 q).n = (S q).n + x.1) ∧ (∀ q, q < N → (x.2 q).ob = (S q).ob ∨ Ge wr11 (x.2 q).ob))) (fun x => 80 - x.1) ⟨rfl, trivial⟩ ⟨rfl, rfl, rfl, trivial⟩ ⟨Evo.refl _ _, ⟨Nat.zero_le _, hP0, hG3, fun q hq => rfl, fun q hq => .inl rfl⟩⟩ ?_
    rintro ⟨k, t⟩ wr41 ⟨hV42, ⟨hk, hP4, hG4, htn, hto⟩⟩
    show CW _ _ _ _ [(6, .int .i64 (k : Nat)), (0, _), (2, _), (3, _)] _
    try dsimp only at hk
    try dsimp only at hP4
    try dsimp only at hG4
    try dsimp only at htn
    try dsimp only at hto
    have hE43 := hE13.step hV42 (fun y hy => by rcases List.mem_cons.1 hy with h | h; { subst h; exact .inr (hG7 _ rfl) }; { exact .inl h })
    have hB44 := hB14.evo hV42 (hLX)
    have hgt4 : ∀ q, q < N → Apart (some bg) (t q).ob := fun q hq => by rcases hto q hq with h | h; { rw [h]; exact hgF q hq }; { exact Apart.fresh hltg h }
    have hlt4 : ∀ q, q < N → Apart obl (t q).ob := fun q hq => by rcases hto q hq with h | h; { rw [h]; exact hap q hq }; { exact Apart.fresh hltl h }
    refine cw_seq ?_
    refine cw_seq ?_
    refine cw_region ?_
    refine wl_val rfl (ex_move rfl) ?_
    refine wl_val rfl (ex_lss rfl rfl) ?_
    refine wl_nil (nrm_then ?_)
    refine cw_if rfl (fun hc44 => ?_) (fun hc44 => ?_)
    · skip
      refine cw_skip (nrm_then ?_)
      refine cw_seq ?_
      refine cw_block ?_
      refine cw_seq ?_
      refine cw_region ?_
      refine wl_val rfl (ex_assign rfl) ?_
      refine wl_nil (nrm_then ?_)
      refine cw_block ?_
      refine cw_loop (α := Nat × (Nat → Sl)) ((0, t)) (fun x => [(7, .int .i64 (x.1 : Nat))]) [(0, _), (2, _), (3, _), (6, _)] (fun x wr => Evo (bg :: fobs N t) wr41 wr ∧ (x.1 ≤ N ∧ Pair wr 5 1 N S x.2 mkB ∧ OwnS wr 24 1 (some ⟨bg, 0, none⟩) N N (sv N x.2) (some bg) ∧ (∀ q, q < N → (x.2 q).n = (S q).n + (if q < x.1 then k + 1 else k)) ∧ (∀ q, q < N → (x.2 q).ob = (t q).ob ∨ Ge wr41 (x.2 q).ob))) (fun x => N - x.1) ⟨rfl, trivial⟩ ⟨rfl, rfl, rfl, rfl, trivial⟩ ⟨Evo.refl _ _, ⟨Nat.zero_le _, hP4, hG4, fun q hq => by rw [if_neg (by omega)]; exact htn q hq, fun q hq => .inl rfl⟩⟩ ?_
      rintro ⟨m, u⟩ wr45 ⟨hV46, ⟨hm, hP5, hG5, hun, hut⟩⟩
      show CW _ _ _ _ [(7, .int .i64 (m : Nat)), (0, _), (2, _), (3, _), (6, _)] _
      try dsimp only at hm
      try dsimp only at hP5
      try dsimp only at hG5
      try dsimp only at hun
      try dsimp only at hut
      have hE47 := hE43.step hV46 (fun y hy => by rcases List.mem_cons.1 hy with h | h; { subst h; exact .inr (hG7 _ rfl) }; { obtain ⟨q, hq, hqy⟩ := fobs_mem.1 h; rcases hto q hq with h2 | h2; { exact .inl (fobs_mem.2 ⟨q, hq, by rw [← h2]; exact hqy⟩) }; { exact .inr ((Ge.fresh hE13 h2) y hqy) } })
      have hE48 := hV42.step hV46 (fun y hy => by rcases List.mem_cons.1 hy with h | h; { subst h; exact .inl (by simp) }; { obtain ⟨q, hq, hqy⟩ := fobs_mem.1 h; rcases hto q hq with h2 | h2; { exact .inl (List.mem_cons_of_mem _ (fobs_mem.2 ⟨q, hq, by rw [← h2]; exact hqy⟩)) }; { exact .inr (h2 y hqy) } })
      have hB49 := hB44.evo hV46 ((fun g hg hm => by rcases List.mem_cons.1 hm with h | h; { exact hA6 g hg (by rw [h]) }; { exact fobs_nmem hlt4 g hg h }))
      have huo : ∀ q, q < N → (u q).ob = (S q).ob ∨ Ge wr11 (u q).ob := fun q hq => ob_trans (hto q hq) hV42 (hut q hq)
      have hgt5 : ∀ q, q < N → Apart (some bg) (u q).ob := fun q hq => by rcases huo q hq with h | h; { rw [h]; exact hgF q hq }; { exact Apart.fresh hltg h }
      have hlt5 : ∀ q, q < N → Apart obl (u q).ob := fun q hq => by rcases huo q hq with h | h; { rw [h]; exact hap q hq }; { exact Apart.fresh hltl h }
      refine cw_seq ?_
      refine cw_seq ?_
      refine cw_region ?_
      refine wl_val rfl (ex_move rfl) ?_
      refine wl_val rfl (ex_move rfl) ?_
      refine wl_val rfl (ex_len_slice rfl Tryd.underlying48 rfl) ?_
      refine wl_val rfl (ex_lss rfl rfl) ?_
      refine wl_nil (nrm_then ?_)
      refine cw_if rfl (fun hc50 => ?_) (fun hc50 => ?_)
      · skip
        have hm' : m < N := by omega
        refine cw_skip (nrm_then ?_)
        refine cw_seq ?_
        refine cw_block ?_
        obtain ⟨gl16, hgl16, -, hcl16⟩ := own_cell1 hG5 (sv_get hm')
        cases hgl16
        refine cw_region ?_
        refine wl_val rfl (ex_move rfl) ?_
        refine wl_val rfl (ex_move rfl) ?_
        refine wl_val rfl (ex_move rfl) ?_
        refine wl_val rfl (ex_move rfl) ?_
        refine wl_val rfl (ex_indexAddr (n := m) rfl rfl Tryd.elem48 (by omega)) ?_
        refine wl_val rfl (ex_load1 rfl Tryd.agg24 hcl16) ?_
        refine wl_val rfl (ex_move rfl) ?_
        refine wl_val rfl (ex_conv rfl Tryd.underlying3 Tryd.underlying5) ?_
        rw [u8_wrap]
        refine wl_bslice (vs := [_]) rfl Tryd.slice24 rfl rfl rfl rfl fun b50 w51 hO52 hs53 hw54 => ?_
        have hA55 := Apart.new (Lt.own hB49) hs53
        have hA56 := Apart.new (Lt.own hG5) hs53
        have hG57 := Ge.new hE47 hs53
        have hG58 := Ge.new hE48 hs53
        have hG59 := Ge.new hV46 hs53
        have hE60 := hE47.then hw54
        have hE61 := hE48.then hw54
        have hE62 := hV46.then hw54
        have hO63 := hB49.evo0 hw54
        have hO64 := hG5.evo0 hw54
        have hF65 := hP5.evo0 hw54
        have hum : (u m).n ≤ 1000000100 := by rw [hun m hm']; have := hn m hm'; split <;> omega
        refine wl_appendS rfl rfl rfl rfl Tryd.app24_24 ((hF65).fam.own m hm') (Src.ofOwn hO52 ⟨by first | rfl | assumption, trivial⟩) (by omega) fun a9 c9 w9 ob9 hO9 hw9 hob9 => ?_
        have hO9' : OwnS w9 5 1 a9 ((u m).n + 1) c9 (rep ((u m).n + 1) (mkB m)) ob9 := by rw [rep_succ]; exact hO9
        have hP9 := (hF65).app mkB_len hm' (r := ⟨a9, (u m).n + 1, c9, ob9⟩) rfl hO9' hw9 hob9
        have hob9' : ob9 = (u m).ob ∨ Ge w51 ob9 := hob9.imp id fun ⟨g, h1, h2, _⟩ => fun g' hg' => by rw [h1] at hg'; cases hg'; exact h2
        have htv : ∀ q, q < N → (if q = m then (⟨a9, (u m).n + 1, c9, ob9⟩ : Sl) else u q).ob = (t q).ob ∨ Ge wr41 (if q = m then (⟨a9, (u m).n + 1, c9, ob9⟩ : Sl) else u q).ob := fun q hq => by by_cases h : q = m; { subst h; simp only [if_true]; exact ob_trans (hut q hq) hE62 hob9' }; { simp only [if_neg h]; exact hut q hq }
        have hgv : ∀ q, q < N → Apart (some bg) (if q = m then (⟨a9, (u m).n + 1, c9, ob9⟩ : Sl) else u q).ob := fun q hq => by by_cases h : q = m; { subst h; simp only [if_true]; exact ap_ob (hgt5 q hq) (Lt.own hO64) hob9' }; { simp only [if_neg h]; exact hgt5 q hq }
        have hE66 := hE60.step hw9 (fun y hy => by rcases huo m hm' with h | h; { exact .inl (fobs_mem.2 ⟨m, hm', by rw [← h]; simpa using hy⟩) }; { exact (Ge.fresh hE13 h).mem y hy })
        have hE67 := hE61.step hw9 (fun y hy => by rcases huo m hm' with h | h; { exact .inl (List.mem_cons_of_mem _ (fobs_mem.2 ⟨m, hm', by rw [← h]; simpa using hy⟩)) }; { exact h.mem y hy })
        have hE68 := hE62.step hw9 (fun y hy => by rcases hut m hm' with h | h; { exact .inl (List.mem_cons_of_mem _ (fobs_mem.2 ⟨m, hm', by rw [← h]; simpa using hy⟩)) }; { exact h.mem y hy })
        have hB69 := hO63.evo hw9 ((hlt5 m hm').own)
        have hB70 := hO64.evo hw9 ((hgt5 m hm').own)
        refine wl_val rfl (ex_indexAddr (n := m) rfl rfl Tryd.elem48 (by omega)) ?_
        obtain ⟨g80, cur71, hg72, hx73, hcu74, hcs75, -⟩ := hB70.at (by omega)
        cases hx73
        refine wl_store1L rfl rfl (rfl) Tryd.size24 hcu74 (hB70.inb hcs75 (k := m) (j := 0) (by omega) (by omega) (by omega)) fun w76 hB77 hw78 => ?_
        replace hw78 := evo_ob hg72 hw78
        have hO79 := hB70.set' hg72 hcu74 hB77
        have hE81 := hE66.step hw78 hG7.mem
        have hE82 := hE67.step hw78 (fun y hy => .inl (by simp at hy; simp [hy]))
        have hE83 := hE68.step hw78 (fun y hy => .inl (by simp at hy; simp [hy]))
        have hO84 := hB69.evo hw78 hA6.own
        have hF85 := hP9.evo hw78 (fun q hq => (hgv q hq).symm.own) (fun q hq => (hgF q hq).symm.own)
        refine wl_nil (nrm_block (nrm_then ?_))
        refine cw_region ?_
        refine wl_val rfl (ex_move rfl) ?_
        refine wl_val rfl (ex_add_i64 rfl rfl (by omega) (by omega)) ?_
        refine wl_val rfl (ex_assign rfl) ?_
        refine wl_nil (nrm_same ?_)
        refine ⟨(m + 1, fun q => if q = m then ⟨a9, (u m).n + 1, c9, ob9⟩ else u q), ?_, ⟨rfl, trivial⟩, ⟨rfl, rfl, rfl, rfl, trivial⟩, hE83, ?_⟩
        · (try dsimp only); omega
        · skip
          try dsimp only
          refine ⟨by omega, hF85, by rw [← sv_set]; have h := hO79; rw [Nat.mul_one, Nat.zero_add] at h; exact h, fun q hq => ?_, htv⟩
          by_cases h : q = m
          · subst h; simp only [if_true]; rw [hun q hq, if_neg (by omega), if_pos (by omega)]; rfl
          · simp only [if_neg h]; rw [hun q hq]; by_cases h2 : q < m; { rw [if_pos h2, if_pos (by omega)] }; { rw [if_neg h2, if_neg (by omega)] }
      · skip
        refine cw_exit (ex_then (ex_then (ex_here (nrm_block (nrm_then ?_)))))
        refine cw_region ?_
        refine wl_val rfl (ex_move rfl) ?_
        refine wl_val rfl (ex_add_i64 rfl rfl (by omega) (by omega)) ?_
        refine wl_val rfl (ex_assign rfl) ?_
        refine wl_nil (nrm_same ?_)
        refine ⟨(k + 1, u), ?_, ⟨rfl, trivial⟩, ⟨rfl, rfl, rfl, trivial⟩, hE48, ?_⟩
        · (try dsimp only); omega
        · skip
          try dsimp only
          have hmN : m = N := by omega
          exact ⟨by omega, hP5, hG5, fun q hq => by rw [hun q hq, if_pos (by omega)], huo⟩
    · skip
      refine cw_exit (ex_then (ex_then (ex_here (nrm_then ?_))))
      refine cw_seq ?_
      refine cw_seq ?_
      refine cw_region ?_
      refine wl_val rfl (ex_assign rfl) ?_
      refine wl_nil (nrm_then ?_)
      refine cw_block ?_
      refine cw_loop (α := Nat) (0) (fun p => [(8, .int .i64 (p : Nat))]) [(0, _), (3, _)] (fun p wr => Evo [] wr41 wr ∧ (p ≤ N)) (fun p => N - p) ⟨rfl, trivial⟩ ⟨rfl, rfl, trivial⟩ ⟨Evo.refl _ _, Nat.zero_le _⟩ ?_
      rintro p wr86 ⟨hV87, hp⟩
      show CW _ _ _ _ [(8, _), (0, _), (3, _)] _
      have hE88 := hE43.then hV87
      have hE89 := hV42.then hV87
      have hO90 := hB44.evo0 hV87
      have hO91 := hG4.evo0 hV87
      have hF92 := hP4.evo0 hV87
      refine cw_seq ?_
      refine cw_seq ?_
      refine cw_region ?_
      refine wl_val rfl (ex_move rfl) ?_
      refine wl_val rfl (ex_move rfl) ?_
      refine wl_val rfl (ex_len_slice rfl Tryd.underlying48 rfl) ?_
      refine wl_val rfl (ex_lss rfl rfl) ?_
      refine wl_nil (nrm_then ?_)
      refine cw_if rfl (fun hc67 => ?_) (fun hc67 => ?_)
      · skip
        have hp' : p < N := by omega
        have htp := htn p hp'
        have hnp := hn p hp'
        refine cw_skip (nrm_then ?_)
        refine cw_seq ?_
        refine cw_block ?_
        refine cw_seq ?_
        refine cw_region ?_
        refine wl_val rfl (ex_assign rfl) ?_
        refine wl_nil (nrm_then ?_)
        refine cw_block ?_
        refine cw_loop (α := Nat) (0) (fun j => [(9, .int .i64 (j : Nat))]) [(0, _), (3, _), (8, _)] (fun j wr => Evo [] wr86 wr ∧ (j ≤ (t p).n)) (fun j => (t p).n - j) ⟨rfl, trivial⟩ ⟨rfl, rfl, rfl, trivial⟩ ⟨Evo.refl _ _, Nat.zero_le _⟩ ?_
        rintro j wr93 ⟨hV94, hj5⟩
        show CW _ _ _ _ [(9, _), (0, _), (3, _), (8, _)] _
        have hE95 := hE88.then hV94
        have hE96 := hE89.then hV94
        have hE97 := hV87.then hV94
        have hO98 := hO90.evo0 hV94
        have hO99 := hO91.evo0 hV94
        have hF100 := hF92.evo0 hV94
        refine cw_seq ?_
        refine cw_seq ?_
        obtain ⟨gl21, hgl21, -, hcl21⟩ := own_cell1 hO99 (sv_get hp')
        cases hgl21
        refine cw_region ?_
        refine wl_val rfl (ex_move rfl) ?_
        refine wl_val rfl (ex_move rfl) ?_
        refine wl_val rfl (ex_move rfl) ?_
        refine wl_val rfl (ex_indexAddr (n := p) rfl rfl Tryd.elem48 (by omega)) ?_
        refine wl_val rfl (ex_load1 rfl Tryd.agg24 hcl21) ?_
        refine wl_val rfl (ex_len_slice rfl Tryd.underlying24 rfl) ?_
        refine wl_val rfl (ex_lss rfl rfl) ?_
        refine wl_nil (nrm_then ?_)
        refine cw_if rfl (fun hc76 => ?_) (fun hc76 => ?_)
        · skip
          refine cw_skip (nrm_then ?_)
          refine cw_seq ?_
          refine cw_block ?_
          refine cw_seq ?_
          obtain ⟨gl23, hgl23, -, hcl23⟩ := own_cell1 hO99 (sv_get hp')
          cases hgl23
          obtain ⟨gll, hgll, hall, hcll⟩ := own_cell1 hO98 (sv_get hp')
          obtain ⟨gf, haf, -, hcf⟩ := OwnS.reads (m := 0) ((hF100).fam.own p hp') (mkB_len p) (s := t p) rfl rfl (Nat.le_refl _) j (by omega)
          refine cw_region ?_
          refine wl_val rfl (ex_move rfl) ?_
          refine wl_val rfl (ex_move rfl) ?_
          refine wl_val rfl (ex_indexAddr (n := p) rfl rfl Tryd.elem48 (by omega)) ?_
          refine wl_val rfl (ex_load1 rfl Tryd.agg24 hcl23) ?_
          refine wl_val rfl (ex_move rfl) ?_
          refine wl_val rfl (ex_indexAddr (n := j) (congrArg some (slv haf)) rfl Tryd.elem24 (by omega)) ?_
          refine wl_val rfl (ex_load1 rfl Tryd.agg5 (hcf 0 _ rfl)) ?_
          refine wl_val rfl (ex_move rfl) ?_
          refine wl_val rfl (ex_conv rfl Tryd.underlying3 Tryd.underlying5) ?_
          rw [u8_wrap]
          refine wl_val rfl (ex_neq rfl rfl) ?_
          refine wl_val rfl (ex_move rfl) ?_
          refine wl_split (t := 89) rfl (fun hs89 => ?_) (fun hs89 => ?_)
          · skip
            refine wl_no rfl rfl rfl rfl rfl rfl ?_
            refine wl_no rfl rfl rfl rfl rfl rfl ?_
            refine wl_no rfl rfl rfl rfl rfl rfl ?_
            refine wl_no rfl rfl rfl rfl rfl rfl ?_
            refine wl_no rfl rfl rfl rfl rfl rfl ?_
            refine wl_no rfl rfl rfl rfl rfl rfl ?_
            refine wl_no rfl rfl rfl rfl rfl rfl ?_
            refine wl_no rfl rfl rfl rfl rfl rfl ?_
            refine wl_nou rfl rfl rfl rfl rfl ?_
            refine wl_nou rfl rfl rfl rfl rfl ?_
            refine wl_nou rfl rfl rfl rfl rfl ?_
            refine wl_nou rfl rfl rfl rfl rfl ?_
            refine wl_nou rfl rfl rfl rfl rfl ?_
            refine wl_nou rfl rfl rfl rfl rfl ?_
            refine wl_nou rfl rfl rfl rfl rfl ?_
            refine wl_nou rfl rfl rfl rfl rfl ?_
            refine wl_nou rfl rfl rfl rfl rfl ?_
            refine wl_nou rfl rfl rfl rfl rfl ?_
            refine wl_no rfl rfl rfl rfl rfl rfl ?_
            refine wl_val rfl (ex_pick_t rfl rfl) ?_
            refine wl_nil (nrm_then ?_)
            refine cw_true rfl ?_
            refine cw_seq ?_
            refine cw_region ?_
            refine wl_val rfl (ex_assign rfl) ?_
            refine wl_nil (nrm_then ?_)
            refine cw_ret (ret_block (ret_then (ret_then (ret_block (ret_block (ret_then (ret_then (ret_block (ret_then (body_ret1 rfl rfl ?_))))))))))
            exact absurd rfl hs89
          · skip
            refine wl_go rfl rfl rfl rfl ?_
            refine wl_val rfl (ex_move rfl) ?_
            refine wl_go rfl rfl rfl rfl ?_
            refine wl_val rfl (ex_move rfl) ?_
            refine wl_go rfl rfl rfl rfl ?_
            refine wl_val rfl (ex_move rfl) ?_
            refine wl_go rfl rfl rfl rfl ?_
            refine wl_val rfl (ex_indexAddr (n := p) (by first | (rw [hall]; done) | (rw [hall]; rfl)) rfl Tryd.elem48 (by omega)) ?_
            refine wl_go rfl rfl rfl rfl ?_
            refine wl_val rfl (ex_load1 rfl Tryd.agg24 hcll) ?_
            refine wl_go rfl rfl rfl rfl ?_
            refine wl_val rfl (ex_len_slice rfl Tryd.underlying24 rfl) ?_
            refine wl_go rfl rfl rfl rfl ?_
            refine wl_val rfl (ex_lss rfl rfl) ?_
            refine wl_go rfl rfl rfl rfl ?_
            refine wl_val rfl (ex_move rfl) ?_
            refine wl_split (t := 97) rfl (fun hs97 => ?_) (fun hs97 => ?_)
            · skip
              obtain ⟨gs, has, -, hcs⟩ := (hF100).reads mkB_len hp' j (by omega)
              refine wl_go rfl rfl rfl rfl ?_
              refine wl_val rfl (ex_move rfl) ?_
              refine wl_go rfl rfl rfl rfl ?_
              refine wl_val rfl (ex_move rfl) ?_
              refine wl_go rfl rfl rfl rfl ?_
              refine wl_val rfl (ex_indexAddr (n := p) (by first | (rw [hall]; done) | (rw [hall]; rfl)) rfl Tryd.elem48 (by omega)) ?_
              refine wl_go rfl rfl rfl rfl ?_
              refine wl_val rfl (ex_load1 rfl Tryd.agg24 hcll) ?_
              refine wl_go rfl rfl rfl rfl ?_
              refine wl_val rfl (ex_move rfl) ?_
              refine wl_go rfl rfl rfl rfl ?_
              refine wl_val rfl (ex_indexAddr (n := j) (congrArg some (slv has)) rfl Tryd.elem24 (by omega)) ?_
              refine wl_go rfl rfl rfl rfl ?_
              refine wl_val rfl (ex_load1 rfl Tryd.agg5 (hcs 0 _ rfl)) ?_
              refine wl_go rfl rfl rfl rfl ?_
              refine wl_val rfl (ex_move rfl) ?_
              refine wl_go rfl rfl rfl rfl ?_
              refine wl_val rfl (ex_conv rfl Tryd.underlying3 Tryd.underlying5) ?_
              rw [u8_wrap]
              refine wl_go rfl rfl rfl rfl ?_
              refine wl_val rfl (ex_neq rfl rfl) ?_
              refine wl_go rfl rfl rfl rfl ?_
              refine wl_val rfl (ex_pick_t rfl rfl) ?_
              refine wl_val rfl (ex_pick_f rfl rfl) ?_
              refine wl_nil (nrm_then ?_)
              refine cw_if rfl (fun hc109 => ?_) (fun hc109 => ?_)
              · skip
                refine cw_seq ?_
                refine cw_region ?_
                refine wl_val rfl (ex_assign rfl) ?_
                refine wl_nil (nrm_then ?_)
                refine cw_ret (ret_block (ret_then (ret_then (ret_block (ret_block (ret_then (ret_then (ret_block (ret_then (body_ret1 rfl rfl ?_))))))))))
                exact absurd rfl hc109
              · skip
                refine cw_skip (nrm_block (nrm_then ?_))
                refine cw_region ?_
                refine wl_val rfl (ex_move rfl) ?_
                refine wl_val rfl (ex_add_i64 rfl rfl (by omega) (by omega)) ?_
                refine wl_val rfl (ex_assign rfl) ?_
                refine wl_nil (nrm_same ?_)
                refine ⟨j + 1, ?_, ⟨rfl, trivial⟩, ⟨rfl, rfl, rfl, trivial⟩, hV94, ?_⟩
                · omega
                · skip
                  exact (by omega)
            · skip
              refine wl_no rfl rfl rfl rfl rfl rfl ?_
              refine wl_no rfl rfl rfl rfl rfl rfl ?_
              refine wl_no rfl rfl rfl rfl rfl rfl ?_
              refine wl_no rfl rfl rfl rfl rfl rfl ?_
              refine wl_no rfl rfl rfl rfl rfl rfl ?_
              refine wl_no rfl rfl rfl rfl rfl rfl ?_
              refine wl_no rfl rfl rfl rfl rfl rfl ?_
              refine wl_no rfl rfl rfl rfl rfl rfl ?_
              refine wl_no rfl rfl rfl rfl rfl rfl ?_
              refine wl_no rfl rfl rfl rfl rfl rfl ?_
              refine wl_go rfl rfl rfl rfl ?_
              refine wl_val rfl (ex_pick_f rfl rfl) ?_
              refine wl_val rfl (ex_pick_f rfl rfl) ?_
              refine wl_nil (nrm_then ?_)
              refine cw_false rfl ?_
              refine cw_skip (nrm_block (nrm_then ?_))
              refine cw_region ?_
              refine wl_val rfl (ex_move rfl) ?_
              refine wl_val rfl (ex_add_i64 rfl rfl (by omega) (by omega)) ?_
              refine wl_val rfl (ex_assign rfl) ?_
              refine wl_nil (nrm_same ?_)
              refine ⟨j + 1, ?_, ⟨rfl, trivial⟩, ⟨rfl, rfl, rfl, trivial⟩, hV94, ?_⟩
              · omega
              · skip
                exact (by omega)
        · skip
          refine cw_exit (ex_then (ex_then (ex_here (nrm_block (nrm_then ?_)))))
          refine cw_region ?_
          refine wl_val rfl (ex_move rfl) ?_
          refine wl_val rfl (ex_add_i64 rfl rfl (by omega) (by omega)) ?_
          refine wl_val rfl (ex_assign rfl) ?_
          refine wl_nil (nrm_same ?_)
          refine ⟨p + 1, ?_, ⟨rfl, trivial⟩, ⟨rfl, rfl, trivial⟩, hE97, ?_⟩
          · omega
          · skip
            exact (by omega)
      · skip
        refine cw_exit (ex_then (ex_then (ex_here (nrm_then ?_))))
        refine cw_seq ?_
        refine cw_region ?_
        refine wl_val rfl (ex_assign rfl) ?_
        refine wl_nil (nrm_then ?_)
        refine cw_ret (body_ret1 rfl rfl ?_)
        exact ⟨rfl, hE88⟩

theorem separate_ok {w : World} {al : Option Addr} {N cl : Nat} {obl : Option Nat} {S : Nat → Sl} {xs : Nat → List Value} (hL : OwnS w 22 1 al N cl (sv N S) obl) (hF : Fam w 41 3 N S xs) (hap : ∀ k, k < N → Apart obl (S k).ob) (hn : ∀ k, k < N → (S k).n ≤ 1000000000) (hN : N ≤ 1000000) :
    Calls Tryd.prog 28 #[.slice al N cl] w (Ret fun r w' => r = .bool true ∧ Evo (fobs N S) w w') := by
  have hxl : ∀ k, k < N → (xs k).length = (S k).n * 3 := fun k hk => (hF.own k hk).1
  have hF0 := fam_zero (mk := mkS) hF
  refine calls_of_cw (N := 110) Tryd.func28 rfl rfl rfl ?_
  refine cw_seq ?_
  refine cw_region ?_
  refine wl_val rfl (ex_assign rfl) ?_
  refine wl_nil (nrm_then ?_)
  refine cw_seq ?_
  refine cw_region ?_
  refine wl_val rfl (ex_move rfl) ?_
  refine wl_val rfl (ex_len_slice rfl Tryd.underlying47 rfl) ?_
  refine wl_make (len := N) (c := N) rfl rfl rfl Tryd.make47 (by omega) (by omega) (by omega) (by decide) (by omega) (by omega) fun bg w2 hG hs4 hw5 => ?_
  have hA6 := Apart.new (Lt.own hL) hs4
  have hG7 := Ge.new (Evo.refl (fobs N S) w) hs4
  have hE8 := (Evo.refl (fobs N S) w).then hw5
  have hO9 := hL.evo0 hw5
  have hF10 := hF0.evo0 hw5
  rw [gv_zero N S] at hG
  have hgF : ∀ k, k < N → Apart (some bg) (S k).ob := fun k hk => (Apart.fresh (hF.lt hk) hG7).symm
  have hLX : ∀ g, obl = some g → g ∉ bg :: fobs N S := fun g hg hm => by rcases List.mem_cons.1 hm with h | h; { exact hA6 g hg (by rw [h]) }; { exact fobs_nmem hap g hg h }
  refine wl_val rfl (ex_assign rfl) ?_
  refine wl_nil (nrm_then ?_)
  refine cw_seq ?_
  refine cw_seq ?_
  refine cw_region ?_
  refine wl_val rfl (ex_assign rfl) ?_
  refine wl_nil (nrm_then ?_)
  refine cw_block ?_
  refine cw_loop (α := Nat) (0) (fun i => [(4, .int .i64 (i : Nat))]) [(0, _), (2, _), (3, _)] (fun i wr => Evo (bg :: fobs N S) w2 wr ∧ (i ≤ N ∧ Fam wr 41 3 N S (xs0 S xs mkS i) ∧ OwnS wr 22 1 (some ⟨bg, 0, none⟩) N N (gv N S i) (some bg))) (fun i => N - i) ⟨rfl, trivial⟩ ⟨rfl, rfl, rfl, trivial⟩ ⟨Evo.refl _ _, ⟨Nat.zero_le _, hF10, hG⟩⟩ ?_
  rintro i wr11 ⟨hV12, ⟨hi, hF1, hG1⟩⟩
  show CW _ _ _ _ [(4, _), (0, _), (2, _), (3, _)] _
  have hE13 := hE8.step hV12 (fun y hy => by rcases List.mem_cons.1 hy with h | h; { subst h; exact .inr (hG7 _ rfl) }; { exact .inl h })
  have hB14 := hO9.evo hV12 (hLX)
  refine cw_seq ?_
  refine cw_seq ?_
  refine cw_region ?_
  refine wl_val rfl (ex_move rfl) ?_
  refine wl_val rfl (ex_move rfl) ?_
  refine wl_val rfl (ex_len_slice rfl Tryd.underlying47 rfl) ?_
  refine wl_val rfl (ex_lss rfl rfl) ?_
  refine wl_nil (nrm_then ?_)
  refine cw_if rfl (fun hc16 => ?_) (fun hc16 => ?_)
  · skip
    have hi' : i < N := by omega
    have hni := hn i hi'
    refine cw_skip (nrm_then ?_)
    refine cw_seq ?_
    refine cw_block ?_
    refine cw_seq ?_
    refine cw_seq ?_
    refine cw_region ?_
    refine wl_val rfl (ex_assign rfl) ?_
    refine wl_nil (nrm_then ?_)
    refine cw_block ?_
    refine cw_loop (α := Nat) (0) (fun j => [(5, .int .i64 (j : Nat))]) [(0, _), (2, _), (3, _), (4, _)] (fun j wr => Evo (S i).ob.toList wr11 wr ∧ (j ≤ (S i).n ∧ Fam wr 41 3 N S (xs1 S xs mkS 3 i j))) (fun j => (S i).n - j) ⟨rfl, trivial⟩ ⟨rfl, rfl, rfl, rfl, trivial⟩ ⟨Evo.refl _ _, ⟨Nat.zero_le _, fam_start hF1⟩⟩ ?_
    rintro j wr15 ⟨hV16, ⟨hj, hF2⟩⟩
    show CW _ _ _ _ [(5, _), (0, _), (2, _), (3, _), (4, _)] _
    have hE17 := hE13.step hV16 (fun y hy => .inl (fobs_in hi' y hy))
    have hE18 := hV12.step hV16 (fun y hy => .inl (List.mem_cons_of_mem _ (fobs_in hi' y hy)))
    have hB19 := hB14.evo hV16 ((hap i hi').own)
    have hB20 := hG1.evo hV16 ((hgF i hi').own)
    refine cw_seq ?_
    refine cw_seq ?_
    obtain ⟨gl6, hgl6, hal6, hcl6⟩ := own_cell1 hB19 (sv_get hi')
    refine cw_region ?_
    refine wl_val rfl (ex_move rfl) ?_
    refine wl_val rfl (ex_move rfl) ?_
    refine wl_val rfl (ex_move rfl) ?_
    refine wl_val rfl (ex_indexAddr (n := i) (by first | (rw [hal6]; done) | (rw [hal6]; rfl)) rfl Tryd.elem47 (by omega)) ?_
    refine wl_val rfl (ex_load1 rfl Tryd.agg22 hcl6) ?_
    refine wl_val rfl (ex_len_slice rfl Tryd.underlying22 rfl) ?_
    refine wl_val rfl (ex_lss rfl rfl) ?_
    refine wl_nil (nrm_then ?_)
    refine cw_if rfl (fun hc25 => ?_) (fun hc25 => ?_)
    · skip
      refine cw_skip (nrm_then ?_)
      refine cw_seq ?_
      refine cw_block ?_
      obtain ⟨gl8, hgl8, hal8, hcl8⟩ := own_cell1 hB19 (sv_get hi')
      have ho8 := (hF2).own i hi'
      obtain ⟨ge8, cu8, hge8, hae8, hce8, hse8, -⟩ := ho8.at (by omega)
      refine cw_region ?_
      refine wl_val rfl (ex_move rfl) ?_
      refine wl_val rfl (ex_move rfl) ?_
      refine wl_val rfl (ex_indexAddr (n := i) (by first | (rw [hal8]; done) | (rw [hal8]; rfl)) rfl Tryd.elem47 (by omega)) ?_
      refine wl_val rfl (ex_load1 rfl Tryd.agg22 hcl8) ?_
      refine wl_val rfl (ex_move rfl) ?_
      refine wl_val rfl (ex_move rfl) ?_
      refine wl_val rfl (ex_build (vs := [(0, _)]) Tryd.build41 rfl (cells := [_, _, _]) rfl) ?_
      refine wl_val rfl (ex_indexAddr (n := j) (congrArg some (slv hae8)) rfl Tryd.elem22 (by omega)) ?_
      refine wl_storeG (n := 3) rfl rfl Tryd.size41 rfl (mkS_one i) hce8 (inbN ho8 hse8 (by omega)) fun w8 hb8 hw8 => ?_
      replace hw8 := evo_ob hge8 hw8
      have hF8 := fam_mark hF2 hi' (by omega) (hxl i hi') (mkS_len i) (ho8.put (k := j) hge8 hce8 (by omega) (by omega) (mkS_len i) hb8) hw8
      have hE21 := hE17.step hw8 (fun y hy => .inl (fobs_in hi' y hy))
      have hE22 := hE18.step hw8 (fun y hy => .inl (List.mem_cons_of_mem _ (fobs_in hi' y hy)))
      have hE23 := hV16.step hw8 (fun y hy => .inl hy)
      have hB24 := hB19.evo hw8 ((hap i hi').own)
      have hB25 := hB20.evo hw8 ((hgF i hi').own)
      refine wl_nil (nrm_block (nrm_then ?_))
      refine cw_region ?_
      refine wl_val rfl (ex_move rfl) ?_
      refine wl_val rfl (ex_add_i64 rfl rfl (by omega) (by omega)) ?_
      refine wl_val rfl (ex_assign rfl) ?_
      refine wl_nil (nrm_same ?_)
      refine ⟨j + 1, ?_, ⟨rfl, trivial⟩, ⟨rfl, rfl, rfl, rfl, trivial⟩, hE23, ?_⟩
      · omega
      · skip
        exact ⟨by omega, hF8⟩
    · skip
      refine cw_exit (ex_then (ex_then (ex_here (nrm_then ?_))))
      obtain ⟨gl9, hgl9, hal9, hcl9⟩ := own_cell1 hB19 (sv_get hi')
      refine cw_region ?_
      refine wl_val rfl (ex_move rfl) ?_
      refine wl_val rfl (ex_move rfl) ?_
      refine wl_val rfl (ex_move rfl) ?_
      refine wl_val rfl (ex_move rfl) ?_
      refine wl_val rfl (ex_indexAddr (n := i) (by first | (rw [hal9]; done) | (rw [hal9]; rfl)) rfl Tryd.elem47 (by omega)) ?_
      refine wl_val rfl (ex_load1 rfl Tryd.agg22 hcl9) ?_
      refine wl_val rfl (ex_indexAddr (n := i) rfl rfl Tryd.elem47 (by omega)) ?_
      obtain ⟨g35, cur26, hg27, hx28, hcu29, hcs30, -⟩ := hB20.at (by omega)
      cases hx28
      refine wl_store1L rfl rfl (rfl) Tryd.size22 hcu29 (hB20.inb hcs30 (k := i) (j := 0) (by omega) (by omega) (by omega)) fun w31 hB32 hw33 => ?_
      replace hw33 := evo_ob hg27 hw33
      have hO34 := hB20.set' hg27 hcu29 hB32
      have hE36 := hE17.step hw33 hG7.mem
      have hE37 := hE18.step hw33 (fun y hy => .inl (by simp at hy; simp [hy]))
      have hO39 := hB19.evo hw33 hA6.own
      have hF40 := hF2.evo hw33 fun k hk => (hgF k hk).symm.own
      refine wl_nil (nrm_block (nrm_then ?_))
      refine cw_region ?_
      refine wl_val rfl (ex_move rfl) ?_
      refine wl_val rfl (ex_add_i64 rfl rfl (by omega) (by omega)) ?_
      refine wl_val rfl (ex_assign rfl) ?_
      refine wl_nil (nrm_same ?_)
      refine ⟨i + 1, ?_, ⟨rfl, trivial⟩, ⟨rfl, rfl, rfl, trivial⟩, hE37, ?_⟩
      · omega
      · skip
        exact ⟨by omega, fam_end hF40 (by omega) (hxl i hi'), by rw [← gv_set]; have h := hO34; rw [Nat.mul_one, Nat.zero_add] at h; exact h⟩
  · skip
    refine cw_exit (ex_then (ex_then (ex_here (nrm_then ?_))))
    refine cw_seq ?_
    refine cw_seq ?_
    have hiN : i = N := by omega
    have hF3 := hF1
    rw [hiN] at hF3
    have hP0 := pair_start (fam_all hF3)
    have hG3 := hG1
    rw [hiN, gv_all] at hG3
    have hltg := Lt.own hG3
    have hltl := Lt.own hB14
    refine cw_region ?_
    refine wl_val rfl (ex_assign rfl) ?_
    refine wl_nil (nrm_then ?_)
    refine cw_block ?_
    refine cw_loop (α := Nat × (Nat → Sl)) ((0, S)) (fun x => [(6, .int .i64 (x.1 : Nat))]) [(0, _), (2, _), (3, _)] (fun x wr => Evo (bg :: fobs N S) wr11 wr ∧ (x.1 ≤ 20 ∧ Pair wr 41 3 N S x.2 mkS ∧ OwnS wr 22 1 (some ⟨bg, 0, none⟩) N N (sv N x.2) (some bg) ∧ (∀ q, q < N → (x.2 q).n = (S q).n + x.1) ∧ (∀ q, q < N → (x.2 q).ob = (S q).ob ∨ Ge wr11 (x.2 q).ob))) (fun x => 20 - x.1) ⟨rfl, trivial⟩ ⟨rfl, rfl, rfl, trivial⟩ ⟨Evo.refl _ _, ⟨Nat.zero_le _, hP0, hG3, fun q hq => rfl, fun q hq => .inl rfl⟩⟩ ?_
    rintro ⟨k, t⟩ wr41 ⟨hV42, ⟨hk, hP4, hG4, htn, hto⟩⟩
    show CW _ _ _ _ [(6, .int .i64 (k : Nat)), (0, _), (2, _), (3, _)] _
    try dsimp only at hk
    try dsimp only at hP4
    try dsimp only at hG4
    try dsimp only at htn
    try dsimp only at hto
    have hE43 := hE13.step hV42 (fun y hy => by rcases List.mem_cons.1 hy with h | h; { subst h; exact .inr (hG7 _ rfl) }; { exact .inl h })
    have hB44 := hB14.evo hV42 (hLX)
    have hgt4 : ∀ q, q < N → Apart (some bg) (t q).ob := fun q hq => by rcases hto q hq with h | h; { rw [h]; exact hgF q hq }; { exact Apart.fresh hltg h }
    have hlt4 : ∀ q, q < N → Apart obl (t q).ob := fun q hq => by rcases hto q hq with h | h; { rw [h]; exact hap q hq }; { exact Apart.fresh hltl h }
    refine cw_seq ?_
    refine cw_seq ?_
    refine cw_region ?_
    refine wl_val rfl (ex_move rfl) ?_
    refine wl_val rfl (ex_lss rfl rfl) ?_
    refine wl_nil (nrm_then ?_)
    refine cw_if rfl (fun hc44 => ?_) (fun hc44 => ?_)
    · skip
      refine cw_skip (nrm_then ?_)
      refine cw_seq ?_
      refine cw_block ?_
      refine cw_seq ?_
      refine cw_region ?_
      refine wl_val rfl (ex_assign rfl) ?_
      refine wl_nil (nrm_then ?_)
      refine cw_block ?_
      refine cw_loop (α := Nat × (Nat → Sl)) ((0, t)) (fun x => [(7, .int .i64 (x.1 : Nat))]) [(0, _), (2, _), (3, _), (6, _)] (fun x wr => Evo (bg :: fobs N t) wr41 wr ∧ (x.1 ≤ N ∧ Pair wr 41 3 N S x.2 mkS ∧ OwnS wr 22 1 (some ⟨bg, 0, none⟩) N N (sv N x.2) (some bg) ∧ (∀ q, q < N → (x.2 q).n = (S q).n + (if q < x.1 then k + 1 else k)) ∧ (∀ q, q < N → (x.2 q).ob = (t q).ob ∨ Ge wr41 (x.2 q).ob))) (fun x => N - x.1) ⟨rfl, trivial⟩ ⟨rfl, rfl, rfl, rfl, trivial⟩ ⟨Evo.refl _ _, ⟨Nat.zero_le _, hP4, hG4, fun q hq => by rw [if_neg (by omega)]; exact htn q hq, fun q hq => .inl rfl⟩⟩ ?_
      rintro ⟨m, u⟩ wr45 ⟨hV46, ⟨hm, hP5, hG5, hun, hut⟩⟩
      show CW _ _ _ _ [(7, .int .i64 (m : Nat)), (0, _), (2, _), (3, _), (6, _)] _
      try dsimp only at hm
      try dsimp only at hP5
      try dsimp only at hG5
      try dsimp only at hun
      try dsimp only at hut
      have hE47 := hE43.step hV46 (fun y hy => by rcases List.mem_cons.1 hy with h | h; { subst h; exact .inr (hG7 _ rfl) }; { obtain ⟨q, hq, hqy⟩ := fobs_mem.1 h; rcases hto q hq with h2 | h2; { exact .inl (fobs_mem.2 ⟨q, hq, by rw [← h2]; exact hqy⟩) }; { exact .inr ((Ge.fresh hE13 h2) y hqy) } })
      have hE48 := hV42.step hV46 (fun y hy => by rcases List.mem_cons.1 hy with h | h; { subst h; exact .inl (by simp) }; { obtain ⟨q, hq, hqy⟩ := fobs_mem.1 h; rcases hto q hq with h2 | h2; { exact .inl (List.mem_cons_of_mem _ (fobs_mem.2 ⟨q, hq, by rw [← h2]; exact hqy⟩)) }; { exact .inr (h2 y hqy) } })
      have hB49 := hB44.evo hV46 ((fun g hg hm => by rcases List.mem_cons.1 hm with h | h; { exact hA6 g hg (by rw [h]) }; { exact fobs_nmem hlt4 g hg h }))
      have huo : ∀ q, q < N → (u q).ob = (S q).ob ∨ Ge wr11 (u q).ob := fun q hq => ob_trans (hto q hq) hV42 (hut q hq)
      have hgt5 : ∀ q, q < N → Apart (some bg) (u q).ob := fun q hq => by rcases huo q hq with h | h; { rw [h]; exact hgF q hq }; { exact Apart.fresh hltg h }
      have hlt5 : ∀ q, q < N → Apart obl (u q).ob := fun q hq => by rcases huo q hq with h | h; { rw [h]; exact hap q hq }; { exact Apart.fresh hltl h }
      refine cw_seq ?_
      refine cw_seq ?_
      refine cw_region ?_
      refine wl_val rfl (ex_move rfl) ?_
      refine wl_val rfl (ex_move rfl) ?_
      refine wl_val rfl (ex_len_slice rfl Tryd.underlying47 rfl) ?_
      refine wl_val rfl (ex_lss rfl rfl) ?_
      refine wl_nil (nrm_then ?_)
      refine cw_if rfl (fun hc50 => ?_) (fun hc50 => ?_)
      · skip
        have hm' : m < N := by omega
        refine cw_skip (nrm_then ?_)
        refine cw_seq ?_
        refine cw_block ?_
        obtain ⟨gl16, hgl16, -, hcl16⟩ := own_cell1 hG5 (sv_get hm')
        cases hgl16
        refine cw_region ?_
        refine wl_val rfl (ex_move rfl) ?_
        refine wl_val rfl (ex_move rfl) ?_
        refine wl_val rfl (ex_move rfl) ?_
        refine wl_val rfl (ex_move rfl) ?_
        refine wl_val rfl (ex_indexAddr (n := m) rfl rfl Tryd.elem47 (by omega)) ?_
        refine wl_val rfl (ex_load1 rfl Tryd.agg22 hcl16) ?_
        refine wl_val rfl (ex_move rfl) ?_
        refine wl_val rfl (ex_build (vs := [(0, _)]) Tryd.build41 rfl (cells := [_, _, _]) rfl) ?_
        refine wl_bslice (vs := [_]) rfl Tryd.slice22 rfl rfl rfl rfl fun b50 w51 hO52 hs53 hw54 => ?_
        have hA55 := Apart.new (Lt.own hB49) hs53
        have hA56 := Apart.new (Lt.own hG5) hs53
        have hG57 := Ge.new hE47 hs53
        have hG58 := Ge.new hE48 hs53
        have hG59 := Ge.new hV46 hs53
        have hE60 := hE47.then hw54
        have hE61 := hE48.then hw54
        have hE62 := hV46.then hw54
        have hO63 := hB49.evo0 hw54
        have hO64 := hG5.evo0 hw54
        have hF65 := hP5.evo0 hw54
        have hum : (u m).n ≤ 1000000100 := by rw [hun m hm']; have := hn m hm'; split <;> omega
        refine wl_appendS rfl rfl rfl rfl Tryd.app22_22 ((hF65).fam.own m hm') (Src.ofOwn hO52 ⟨by first | rfl | assumption, by first | rfl | assumption, by first | rfl | assumption, trivial⟩) (by omega) fun a9 c9 w9 ob9 hO9 hw9 hob9 => ?_
        have hO9' : OwnS w9 41 3 a9 ((u m).n + 1) c9 (rep ((u m).n + 1) (mkS m)) ob9 := by rw [rep_succ]; exact hO9
        have hP9 := (hF65).app mkS_len hm' (r := ⟨a9, (u m).n + 1, c9, ob9⟩) rfl hO9' hw9 hob9
        have hob9' : ob9 = (u m).ob ∨ Ge w51 ob9 := hob9.imp id fun ⟨g, h1, h2, _⟩ => fun g' hg' => by rw [h1] at hg'; cases hg'; exact h2
        have htv : ∀ q, q < N → (if q = m then (⟨a9, (u m).n + 1, c9, ob9⟩ : Sl) else u q).ob = (t q).ob ∨ Ge wr41 (if q = m then (⟨a9, (u m).n + 1, c9, ob9⟩ : Sl) else u q).ob := fun q hq => by by_cases h : q = m; { subst h; simp only [if_true]; exact ob_trans (hut q hq) hE62 hob9' }; { simp only [if_neg h]; exact hut q hq }
        have hgv : ∀ q, q < N → Apart (some bg) (if q = m then (⟨a9, (u m).n + 1, c9, ob9⟩ : Sl) else u q).ob := fun q hq => by by_cases h : q = m; { subst h; simp only [if_true]; exact ap_ob (hgt5 q hq) (Lt.own hO64) hob9' }; { simp only [if_neg h]; exact hgt5 q hq }
        have hE66 := hE60.step hw9 (fun y hy => by rcases huo m hm' with h | h; { exact .inl (fobs_mem.2 ⟨m, hm', by rw [← h]; simpa using hy⟩) }; { exact (Ge.fresh hE13 h).mem y hy })
        have hE67 := hE61.step hw9 (fun y hy => by rcases huo m hm' with h | h; { exact .inl (List.mem_cons_of_mem _ (fobs_mem.2 ⟨m, hm', by rw [← h]; simpa using hy⟩)) }; { exact h.mem y hy })
        have hE68 := hE62.step hw9 (fun y hy => by rcases hut m hm' with h | h; { exact .inl (List.mem_cons_of_mem _ (fobs_mem.2 ⟨m, hm', by rw [← h]; simpa using hy⟩)) }; { exact h.mem y hy })
        have hB69 := hO63.evo hw9 ((hlt5 m hm').own)
        have hB70 := hO64.evo hw9 ((hgt5 m hm').own)
        refine wl_val rfl (ex_indexAddr (n := m) rfl rfl Tryd.elem47 (by omega)) ?_
        obtain ⟨g80, cur71, hg72, hx73, hcu74, hcs75, -⟩ := hB70.at (by omega)
        cases hx73
        refine wl_store1L rfl rfl (rfl) Tryd.size22 hcu74 (hB70.inb hcs75 (k := m) (j := 0) (by omega) (by omega) (by omega)) fun w76 hB77 hw78 => ?_
        replace hw78 := evo_ob hg72 hw78
        have hO79 := hB70.set' hg72 hcu74 hB77
        have hE81 := hE66.step hw78 hG7.mem
        have hE82 := hE67.step hw78 (fun y hy => .inl (by simp at hy; simp [hy]))
        have hE83 := hE68.step hw78 (fun y hy => .inl (by simp at hy; simp [hy]))
        have hO84 := hB69.evo hw78 hA6.own
        have hF85 := hP9.evo hw78 (fun q hq => (hgv q hq).symm.own) (fun q hq => (hgF q hq).symm.own)
        refine wl_nil (nrm_block (nrm_then ?_))
        refine cw_region ?_
        refine wl_val rfl (ex_move rfl) ?_
        refine wl_val rfl (ex_add_i64 rfl rfl (by omega) (by omega)) ?_
        refine wl_val rfl (ex_assign rfl) ?_
        refine wl_nil (nrm_same ?_)
        refine ⟨(m + 1, fun q => if q = m then ⟨a9, (u m).n + 1, c9, ob9⟩ else u q), ?_, ⟨rfl, trivial⟩, ⟨rfl, rfl, rfl, rfl, trivial⟩, hE83, ?_⟩
        · (try dsimp only); omega
        · skip
          try dsimp only
          refine ⟨by omega, hF85, by rw [← sv_set]; have h := hO79; rw [Nat.mul_one, Nat.zero_add] at h; exact h, fun q hq => ?_, htv⟩
          by_cases h : q = m
          · subst h; simp only [if_true]; rw [hun q hq, if_neg (by omega), if_pos (by omega)]; rfl
          · simp only [if_neg h]; rw [hun q hq]; by_cases h2 : q < m; { rw [if_pos h2, if_pos (by omega)] }; { rw [if_neg h2, if_neg (by omega)] }
      · skip
        refine cw_exit (ex_then (ex_then (ex_here (nrm_block (nrm_then ?_)))))
        refine cw_region ?_
        refine wl_val rfl (ex_move rfl) ?_
        refine wl_val rfl (ex_add_i64 rfl rfl (by omega) (by omega)) ?_
        refine wl_val rfl (ex_assign rfl) ?_
        refine wl_nil (nrm_same ?_)
        refine ⟨(k + 1, u), ?_, ⟨rfl, trivial⟩, ⟨rfl, rfl, rfl, trivial⟩, hE48, ?_⟩
        · (try dsimp only); omega
        · skip
          try dsimp only
          have hmN : m = N := by omega
          exact ⟨by omega, hP5, hG5, fun q hq => by rw [hun q hq, if_pos (by omega)], huo⟩
    · skip
      refine cw_exit (ex_then (ex_then (ex_here (nrm_then ?_))))
      refine cw_seq ?_
      refine cw_seq ?_
      refine cw_region ?_
      refine wl_val rfl (ex_assign rfl) ?_
      refine wl_nil (nrm_then ?_)
      refine cw_block ?_
      refine cw_loop (α := Nat) (0) (fun p => [(8, .int .i64 (p : Nat))]) [(0, _), (3, _)] (fun p wr => Evo [] wr41 wr ∧ (p ≤ N)) (fun p => N - p) ⟨rfl, trivial⟩ ⟨rfl, rfl, trivial⟩ ⟨Evo.refl _ _, Nat.zero_le _⟩ ?_
      rintro p wr86 ⟨hV87, hp⟩
      show CW _ _ _ _ [(8, _), (0, _), (3, _)] _
      have hE88 := hE43.then hV87
      have hE89 := hV42.then hV87
      have hO90 := hB44.evo0 hV87
      have hO91 := hG4.evo0 hV87
      have hF92 := hP4.evo0 hV87
      refine cw_seq ?_
      refine cw_seq ?_
      refine cw_region ?_
      refine wl_val rfl (ex_move rfl) ?_
      refine wl_val rfl (ex_move rfl) ?_
      refine wl_val rfl (ex_len_slice rfl Tryd.underlying47 rfl) ?_
      refine wl_val rfl (ex_lss rfl rfl) ?_
      refine wl_nil (nrm_then ?_)
      refine cw_if rfl (fun hc67 => ?_) (fun hc67 => ?_)
      · skip
        have hp' : p < N := by omega
        have htp := htn p hp'
        have hnp := hn p hp'
        refine cw_skip (nrm_then ?_)
        refine cw_seq ?_
        refine cw_block ?_
        refine cw_seq ?_
        refine cw_region ?_
        refine wl_val rfl (ex_assign rfl) ?_
        refine wl_nil (nrm_then ?_)
        refine cw_block ?_
        refine cw_loop (α := Nat) (0) (fun j => [(9, .int .i64 (j : Nat))]) [(0, _), (3, _), (8, _)] (fun j wr => Evo [] wr86 wr ∧ (j ≤ (t p).n)) (fun j => (t p).n - j) ⟨rfl, trivial⟩ ⟨rfl, rfl, rfl, trivial⟩ ⟨Evo.refl _ _, Nat.zero_le _⟩ ?_
        rintro j wr93 ⟨hV94, hj5⟩
        show CW _ _ _ _ [(9, _), (0, _), (3, _), (8, _)] _
        have hE95 := hE88.then hV94
        have hE96 := hE89.then hV94
        have hE97 := hV87.then hV94
        have hO98 := hO90.evo0 hV94
        have hO99 := hO91.evo0 hV94
        have hF100 := hF92.evo0 hV94
        refine cw_seq ?_
        refine cw_seq ?_
        obtain ⟨gl21, hgl21, -, hcl21⟩ := own_cell1 hO99 (sv_get hp')
        cases hgl21
        refine cw_region ?_
        refine wl_val rfl (ex_move rfl) ?_
        refine wl_val rfl (ex_move rfl) ?_
        refine wl_val rfl (ex_move rfl) ?_
        refine wl_val rfl (ex_indexAddr (n := p) rfl rfl Tryd.elem47 (by omega)) ?_
        refine wl_val rfl (ex_load1 rfl Tryd.agg22 hcl21) ?_
        refine wl_val rfl (ex_len_slice rfl Tryd.underlying22 rfl) ?_
        refine wl_val rfl (ex_lss rfl rfl) ?_
        refine wl_nil (nrm_then ?_)
        refine cw_if rfl (fun hc76 => ?_) (fun hc76 => ?_)
        · skip
          refine cw_skip (nrm_then ?_)
          refine cw_seq ?_
          refine cw_block ?_
          refine cw_seq ?_
          obtain ⟨gl23, hgl23, -, hcl23⟩ := own_cell1 hO99 (sv_get hp')
          cases hgl23
          obtain ⟨gll, hgll, hall, hcll⟩ := own_cell1 hO98 (sv_get hp')
          obtain ⟨gf, haf, -, hcf⟩ := OwnS.reads (m := 0) ((hF100).fam.own p hp') (mkS_len p) (s := t p) rfl rfl (Nat.le_refl _) j (by omega)
          refine cw_region ?_
          refine wl_val rfl (ex_move rfl) ?_
          refine wl_val rfl (ex_move rfl) ?_
          refine wl_val rfl (ex_indexAddr (n := p) rfl rfl Tryd.elem47 (by omega)) ?_
          refine wl_val rfl (ex_load1 rfl Tryd.agg22 hcl23) ?_
          refine wl_val rfl (ex_move rfl) ?_
          refine wl_val rfl (ex_indexAddr (n := j) (congrArg some (slv haf)) rfl Tryd.elem22 (by omega)) ?_
          refine wl_val rfl (ex_fieldAddr rfl Tryd.fld41_0) ?_
          refine wl_val rfl (ex_load1 rfl Tryd.agg2 (hcf 0 _ rfl)) ?_
          refine wl_val rfl (ex_move rfl) ?_
          refine wl_val rfl (ex_neq rfl rfl) ?_
          refine wl_val rfl (ex_move rfl) ?_
          refine wl_split (t := 89) rfl (fun hs89 => ?_) (fun hs89 => ?_)
          · skip
            refine wl_no rfl rfl rfl rfl rfl rfl ?_
            refine wl_no rfl rfl rfl rfl rfl rfl ?_
            refine wl_no rfl rfl rfl rfl rfl rfl ?_
            refine wl_no rfl rfl rfl rfl rfl rfl ?_
            refine wl_no rfl rfl rfl rfl rfl rfl ?_
            refine wl_no rfl rfl rfl rfl rfl rfl ?_
            refine wl_no rfl rfl rfl rfl rfl rfl ?_
            refine wl_no rfl rfl rfl rfl rfl rfl ?_
            refine wl_nou rfl rfl rfl rfl rfl ?_
            refine wl_nou rfl rfl rfl rfl rfl ?_
            refine wl_nou rfl rfl rfl rfl rfl ?_
            refine wl_nou rfl rfl rfl rfl rfl ?_
            refine wl_nou rfl rfl rfl rfl rfl ?_
            refine wl_nou rfl rfl rfl rfl rfl ?_
            refine wl_nou rfl rfl rfl rfl rfl ?_
            refine wl_nou rfl rfl rfl rfl rfl ?_
            refine wl_nou rfl rfl rfl rfl rfl ?_
            refine wl_nou rfl rfl rfl rfl rfl ?_
            refine wl_no rfl rfl rfl rfl rfl rfl ?_
            refine wl_val rfl (ex_pick_t rfl rfl) ?_
            refine wl_nil (nrm_then ?_)
            refine cw_true rfl ?_
            refine cw_seq ?_
            refine cw_region ?_
            refine wl_val rfl (ex_assign rfl) ?_
            refine wl_nil (nrm_then ?_)
            refine cw_ret (ret_block (ret_then (ret_then (ret_block (ret_block (ret_then (ret_then (ret_block (ret_then (body_ret1 rfl rfl ?_))))))))))
            exact absurd rfl hs89
          · skip
            refine wl_go rfl rfl rfl rfl ?_
            refine wl_val rfl (ex_move rfl) ?_
            refine wl_go rfl rfl rfl rfl ?_
            refine wl_val rfl (ex_move rfl) ?_
            refine wl_go rfl rfl rfl rfl ?_
            refine wl_val rfl (ex_move rfl) ?_
            refine wl_go rfl rfl rfl rfl ?_
            refine wl_val rfl (ex_indexAddr (n := p) (by first | (rw [hall]; done) | (rw [hall]; rfl)) rfl Tryd.elem47 (by omega)) ?_
            refine wl_go rfl rfl rfl rfl ?_
            refine wl_val rfl (ex_load1 rfl Tryd.agg22 hcll) ?_
            refine wl_go rfl rfl rfl rfl ?_
            refine wl_val rfl (ex_len_slice rfl Tryd.underlying22 rfl) ?_
            refine wl_go rfl rfl rfl rfl ?_
            refine wl_val rfl (ex_lss rfl rfl) ?_
            refine wl_go rfl rfl rfl rfl ?_
            refine wl_val rfl (ex_move rfl) ?_
            refine wl_split (t := 97) rfl (fun hs97 => ?_) (fun hs97 => ?_)
            · skip
              obtain ⟨gs, has, -, hcs⟩ := (hF100).reads mkS_len hp' j (by omega)
              refine wl_go rfl rfl rfl rfl ?_
              refine wl_val rfl (ex_move rfl) ?_
              refine wl_go rfl rfl rfl rfl ?_
              refine wl_val rfl (ex_move rfl) ?_
              refine wl_go rfl rfl rfl rfl ?_
              refine wl_val rfl (ex_indexAddr (n := p) (by first | (rw [hall]; done) | (rw [hall]; rfl)) rfl Tryd.elem47 (by omega)) ?_
              refine wl_go rfl rfl rfl rfl ?_
              refine wl_val rfl (ex_load1 rfl Tryd.agg22 hcll) ?_
              refine wl_go rfl rfl rfl rfl ?_
              refine wl_val rfl (ex_move rfl) ?_
              refine wl_go rfl rfl rfl rfl ?_
              refine wl_val rfl (ex_indexAddr (n := j) (congrArg some (slv has)) rfl Tryd.elem22 (by omega)) ?_
              refine wl_go rfl rfl rfl rfl ?_
              refine wl_val rfl (ex_fieldAddr rfl Tryd.fld41_0) ?_
              refine wl_go rfl rfl rfl rfl ?_
              refine wl_val rfl (ex_load1 rfl Tryd.agg2 (hcs 0 _ rfl)) ?_
              refine wl_go rfl rfl rfl rfl ?_
              refine wl_val rfl (ex_move rfl) ?_
              refine wl_go rfl rfl rfl rfl ?_
              refine wl_val rfl (ex_neq rfl rfl) ?_
              refine wl_go rfl rfl rfl rfl ?_
              refine wl_val rfl (ex_pick_t rfl rfl) ?_
              refine wl_val rfl (ex_pick_f rfl rfl) ?_
              refine wl_nil (nrm_then ?_)
              refine cw_if rfl (fun hc109 => ?_) (fun hc109 => ?_)
              · skip
                refine cw_seq ?_
                refine cw_region ?_
                refine wl_val rfl (ex_assign rfl) ?_
                refine wl_nil (nrm_then ?_)
                refine cw_ret (ret_block (ret_then (ret_then (ret_block (ret_block (ret_then (ret_then (ret_block (ret_then (body_ret1 rfl rfl ?_))))))))))
                exact absurd rfl hc109
              · skip
                refine cw_skip (nrm_block (nrm_then ?_))
                refine cw_region ?_
                refine wl_val rfl (ex_move rfl) ?_
                refine wl_val rfl (ex_add_i64 rfl rfl (by omega) (by omega)) ?_
                refine wl_val rfl (ex_assign rfl) ?_
                refine wl_nil (nrm_same ?_)
                refine ⟨j + 1, ?_, ⟨rfl, trivial⟩, ⟨rfl, rfl, rfl, trivial⟩, hV94, ?_⟩
                · omega
                · skip
                  exact (by omega)
            · skip
              refine wl_no rfl rfl rfl rfl rfl rfl ?_
              refine wl_no rfl rfl rfl rfl rfl rfl ?_
              refine wl_no rfl rfl rfl rfl rfl rfl ?_
              refine wl_no rfl rfl rfl rfl rfl rfl ?_
              refine wl_no rfl rfl rfl rfl rfl rfl ?_
              refine wl_no rfl rfl rfl rfl rfl rfl ?_
              refine wl_no rfl rfl rfl rfl rfl rfl ?_
              refine wl_no rfl rfl rfl rfl rfl rfl ?_
              refine wl_no rfl rfl rfl rfl rfl rfl ?_
              refine wl_no rfl rfl rfl rfl rfl rfl ?_
              refine wl_go rfl rfl rfl rfl ?_
              refine wl_val rfl (ex_pick_f rfl rfl) ?_
              refine wl_val rfl (ex_pick_f rfl rfl) ?_
              refine wl_nil (nrm_then ?_)
              refine cw_false rfl ?_
              refine cw_skip (nrm_block (nrm_then ?_))
              refine cw_region ?_
              refine wl_val rfl (ex_move rfl) ?_
              refine wl_val rfl (ex_add_i64 rfl rfl (by omega) (by omega)) ?_
              refine wl_val rfl (ex_assign rfl) ?_
              refine wl_nil (nrm_same ?_)
              refine ⟨j + 1, ?_, ⟨rfl, trivial⟩, ⟨rfl, rfl, rfl, trivial⟩, hV94, ?_⟩
              · omega
              · skip
                exact (by omega)
        · skip
          refine cw_exit (ex_then (ex_then (ex_here (nrm_block (nrm_then ?_)))))
          refine cw_region ?_
          refine wl_val rfl (ex_move rfl) ?_
          refine wl_val rfl (ex_add_i64 rfl rfl (by omega) (by omega)) ?_
          refine wl_val rfl (ex_assign rfl) ?_
          refine wl_nil (nrm_same ?_)
          refine ⟨p + 1, ?_, ⟨rfl, trivial⟩, ⟨rfl, rfl, trivial⟩, hE97, ?_⟩
          · omega
          · skip
            exact (by omega)
      · skip
        refine cw_exit (ex_then (ex_then (ex_here (nrm_then ?_))))
        refine cw_seq ?_
        refine cw_region ?_
        refine wl_val rfl (ex_assign rfl) ?_
        refine wl_nil (nrm_then ?_)
        refine cw_ret (body_ret1 rfl rfl ?_)
        exact ⟨rfl, hE88⟩

end Go.Proofs.YtclmkppiolfgbaaDoor
