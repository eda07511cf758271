/- The walk of apart: several lists written over, grown, grown by many, and looked at. -/
import Derived.Test.YtopjnoblhleimaaRj
namespace Go.Proofs.Ytopjnoblhleimaa
open Go.Proofs
open Go.W
attribute [local irreducible] Decidable.decide
set_option linter.unusedSimpArgs false
set_option linter.unusedVariables false
theorem Try.elem64 : elemB Try.prog 64 = some 1 := by kernel_rfl
theorem Try.make64 : makeB Try.prog 64 = some (33, 1, 24, #[.slice none 0 0]) := by kernel_rfl
theorem Try.size33 : sizeB Try.prog 33 = some 1 := by kernel_rfl


theorem upd_same {T : Nat → Sl} {i : Nat} : upd T i (T i) = T := by funext k; by_cases h : k = i <;> simp [upd, h]
theorem upd_upd {T : Nat → Sl} {i : Nat} {r r' : Sl} : upd (upd T i r) i r' = upd T i r' := by funext k; by_cases h : k = i <;> simp [upd, h]
theorem sl_in {N i : Nat} {S : Nat → Sl} {w : World} {o : Option Nat} (hi : i < N) (h : o = (S i).ob ∨ Ge w o) : ∀ y, y ∈ o.toList → y ∈ fobs N S ∨ w.heap.size ≤ y := fun y hy => by
  rcases h with h | h
  · exact .inl (fobs_in hi y (by rw [← h]; exact hy))
  · exact .inr (h y (by simpa using hy))
theorem zeros_rep2 (n : Nat) (z : Int) : zeros #[.int .i64 0] n = List.replicate 0 (iv z) ++ List.replicate (n - 0) (iv 0) := by
  simp only [zeros, List.replicate_zero, List.nil_append, Nat.sub_zero]
  induction n with
  | zero => rfl
  | succ n ih => rw [List.replicate_succ, List.flatten_cons, ih, List.replicate_succ]; rfl

set_option maxHeartbeats 4000000 in
theorem apart_ok {w : World} {al : Option Addr} {N cc : Nat} {obl : Option Nat} {S : Nat → Sl} {xs : Nat → List Value} (hL : OwnS w 33 1 al N cc (sv N S) obl) (hF : Fam w 3 1 N S xs) (hap : ∀ k, k < N → Apart obl (S k).ob) (hn : ∀ k, k < N → (S k).n ≤ 1000000000) (hN : N ≤ 1000) :
    Calls Try.prog 13 #[.slice al N cc] w (Ret fun r w' => r = .bool true ∧ Evo (fobs N S) w w') := by
  have hxl : ∀ k, k < N → (xs k).length = (S k).n * 1 := fun k hk => (hF.own k hk).1
  have hF0 := fam_zero (mk := mkA) hF
  refine calls_of_cw (N := 163) Try.func13 rfl rfl rfl ?_
  refine cw_seq ?_
  refine cw_region ?_
  refine wl_val rfl (ex_assign rfl) ?_
  refine wl_nil (nrm_then ?_)
  refine cw_seq ?_
  refine cw_seq ?_
  refine cw_region ?_
  refine wl_val rfl (ex_move rfl) ?_
  refine wl_val rfl (ex_len_slice rfl Try.underlying64 rfl) ?_
  refine wl_val rfl (ex_move rfl) ?_
  refine wl_nil (nrm_then ?_)
  refine cw_block ?_
  refine cw_loop (α := Nat) (0) (fun i => [(22, .int .i64 (i : Nat))]) [(0, _), (2, _), (20, _), (21, _)] (fun i wr => Evo (fobs N S) w wr ∧ (i ≤ N ∧ Fam wr 3 1 N S (xs0 S xs mkA i) ∧ OwnS wr 33 1 al N cc (sv N S) obl)) (fun i => N - i) ⟨rfl, trivial⟩ ⟨rfl, rfl, rfl, rfl, trivial⟩ ⟨(Evo.refl (fobs N S) w), ⟨Nat.zero_le _, hF0, hL⟩⟩ ?_
  rintro i wr1 ⟨hV2, ⟨hi, hF, hL⟩⟩
  show CW _ _ _ _ [(22, _), (0, _), (2, _), (20, _), (21, _)] _
  refine cw_seq ?_
  refine cw_region ?_
  refine wl_val rfl (ex_lss rfl rfl) ?_
  refine wl_nil (nrm_then ?_)
  refine cw_seq ?_
  refine cw_if rfl (fun hc23 => ?_) (fun hc23 => ?_)
  · skip
    have hi' : i < N := by omega
    have hni := hn i hi'
    refine cw_skip (nrm_then ?_)
    refine cw_seq ?_
    refine cw_block ?_
    refine cw_seq ?_
    obtain ⟨gl3, hgl3, hal3, hcl3⟩ := own_cell1 hL (sv_get hi')
    refine cw_region ?_
    refine wl_val rfl (ex_move rfl) ?_
    refine wl_val rfl (ex_indexAddr (n := i) (by first | (rw [hal3]; done) | (rw [hal3]; rfl)) rfl Try.elem64 (by omega)) ?_
    refine wl_val rfl (ex_load1 rfl Try.agg33 hcl3) ?_
    refine wl_val rfl (ex_assign rfl) ?_
    refine wl_val rfl (ex_assign rfl) ?_
    refine wl_nil (nrm_then ?_)
    refine cw_seq ?_
    refine cw_region ?_
    refine wl_val rfl (ex_move rfl) ?_
    refine wl_val rfl (ex_len_slice rfl Try.underlying33 rfl) ?_
    refine wl_val rfl (ex_move rfl) ?_
    refine wl_nil (nrm_then ?_)
    refine cw_block ?_
    refine cw_loop (α := Nat) (0) (fun j => [(29, .int .i64 (j : Nat))]) [(0, _), (2, _), (3, _), (4, _), (20, _), (21, _), (22, _), (28, _)] (fun j wr => Evo (fobs N S) w wr ∧ (j ≤ (S i).n ∧ Fam wr 3 1 N S (xs1 S xs mkA 1 i j) ∧ OwnS wr 33 1 al N cc (sv N S) obl)) (fun j => (S i).n - j) ⟨rfl, trivial⟩ ⟨rfl, rfl, rfl, rfl, rfl, rfl, rfl, rfl, trivial⟩ ⟨hV2, ⟨Nat.zero_le _, fam_start hF, hL⟩⟩ ?_
    rintro j wr3 ⟨hV4, ⟨hj, hF2, hL⟩⟩
    show CW _ _ _ _ [(29, _), (0, _), (2, _), (3, _), (4, _), (20, _), (21, _), (22, _), (28, _)] _
    refine cw_seq ?_
    refine cw_region ?_
    refine wl_val rfl (ex_lss rfl rfl) ?_
    refine wl_nil (nrm_then ?_)
    refine cw_seq ?_
    refine cw_if rfl (fun hc30 => ?_) (fun hc30 => ?_)
    · skip
      have ho8 := (hF2).own i hi'
      obtain ⟨ge8, cu8, hge8, hae8, hce8, hse8, -⟩ := ho8.at (by omega)
      refine cw_skip (nrm_then ?_)
      refine cw_seq ?_
      refine cw_block ?_
      refine cw_seq ?_
      refine cw_region ?_
      refine wl_val rfl (ex_move rfl) ?_
      refine wl_val rfl (ex_assign rfl) ?_
      refine wl_nil (nrm_then ?_)
      refine cw_region ?_
      refine wl_val rfl (ex_move rfl) ?_
      refine wl_val rfl (ex_move rfl) ?_
      refine wl_val rfl (ex_move rfl) ?_
      refine wl_val rfl (ex_add_i64 rfl rfl (by omega) (by omega)) ?_
      refine wl_val rfl (ex_indexAddr (n := j) (congrArg some (slv hae8)) rfl Try.elem33 (by omega)) ?_
      refine wl_storeG (n := 1) rfl rfl Try.size3 rfl (mkA_one i) hce8 (inbN ho8 hse8 (by omega)) fun w8 hb8 hw8 => ?_
      replace hw8 := evo_ob hge8 hw8
      have hF8 := fam_mark hF2 hi' (by omega) (hxl i hi') (mkA_len i) (ho8.put (k := j) hge8 hce8 (by omega) (by omega) (mkA_len i) hb8) hw8
      have hE5 := hV4.step hw8 (fun y hy => .inl (fobs_in hi' y hy))
      have hB6 := hL.evo hw8 ((hap i hi').own)
      refine wl_nil (nrm_block (nrm_then ?_))
      refine cw_region ?_
      refine wl_val rfl (ex_add_i64 rfl rfl (by omega) (by omega)) ?_
      refine wl_val rfl (ex_move rfl) ?_
      refine wl_nil (nrm_then ?_)
      refine ⟨j + 1, ?_, ⟨rfl, trivial⟩, ⟨rfl, rfl, rfl, rfl, rfl, rfl, rfl, rfl, trivial⟩, hE5, ?_⟩
      · omega
      · skip
        exact ⟨by omega, hF8, hB6⟩
    · skip
      refine cw_exit (ex_then (ex_then (ex_here (nrm_block (nrm_then ?_)))))
      refine cw_region ?_
      refine wl_val rfl (ex_add_i64 rfl rfl (by omega) (by omega)) ?_
      refine wl_val rfl (ex_move rfl) ?_
      refine wl_nil (nrm_then ?_)
      refine ⟨i + 1, ?_, ⟨rfl, trivial⟩, ⟨rfl, rfl, rfl, rfl, trivial⟩, hV4, ?_⟩
      · omega
      · skip
        exact ⟨by omega, fam_end hF2 (by omega) (hxl i hi'), hL⟩
  · skip
    have hiN : i = N := by omega
    have hF3 := hF
    rw [hiN] at hF3
    have hP0 := tri_start (fam_all hF3)
    refine cw_exit (ex_then (ex_then (ex_here (nrm_then ?_))))
    refine cw_seq ?_
    refine cw_region ?_
    refine wl_val rfl (ex_move rfl) ?_
    refine wl_val rfl (ex_len_slice rfl Try.underlying64 rfl) ?_
    refine wl_make (len := N) (c := N) rfl rfl rfl Try.make64 (by omega) (by omega) (by omega) (by decide) (by omega) (by omega) fun bg w8 hG0 hs10 hw11 => ?_
    have hA12 := Apart.new (Lt.own hL) hs10
    have hG13 := Ge.new hV2 hs10
    have hG14 := Ge.new (Evo.refl [] wr1) hs10
    have hE15 := hV2.then hw11
    have hE16 := (Evo.refl [] wr1).then hw11
    have hO17 := hL.evo0 hw11
    have hF18 := hP0.evo0 hw11
    rw [gv_zero N S] at hG0
    have hgS : ∀ k, k < N → Apart (some bg) (S k).ob := fun k hk => (Apart.fresh (hP0.fam.lt hk) hG14).symm
    have hgw : Ge w (some bg) := hG13
    have hlg : Apart obl (some bg) := hA12
    refine wl_val rfl (ex_assign rfl) ?_
    refine wl_nil (nrm_then ?_)
    refine cw_seq ?_
    refine cw_seq ?_
    refine cw_region ?_
    refine wl_val rfl (ex_move rfl) ?_
    refine wl_val rfl (ex_len_slice rfl Try.underlying64 rfl) ?_
    refine wl_val rfl (ex_move rfl) ?_
    refine wl_nil (nrm_then ?_)
    refine cw_block ?_
    refine cw_loop (α := Nat × (Nat → Sl)) ((0, S)) (fun x => [(44, .int .i64 (x.1 : Nat))]) [(0, _), (2, _), (6, _), (42, _), (43, _)] (fun x wr => Evo (fobs N S) w wr ∧ (x.1 ≤ N ∧ Tri wr N S x.2 x.2 (ctV S) ∧ OwnS wr 33 1 (some ⟨bg, 0, none⟩) N N (gv N x.2 x.1) (some bg) ∧ OwnS wr 33 1 al N cc (sv N S) obl ∧ (∀ k, k < N → x.1 ≤ k → x.2 k = S k) ∧ (∀ k, k < N → k < x.1 → (x.2 k).n = (S k).n + 16) ∧ (∀ k, k < N → Apart (some bg) (x.2 k).ob) ∧ (∀ k, k < N → Apart obl (x.2 k).ob) ∧ (∀ k, k < N → (x.2 k).ob = (S k).ob ∨ Ge w (x.2 k).ob))) (fun x => N - x.1) ⟨rfl, trivial⟩ ⟨rfl, rfl, rfl, rfl, rfl, trivial⟩ ⟨hE15, ⟨Nat.zero_le _, hF18, hG0, hO17, fun _ _ _ => rfl, fun k _ h => by omega, hgS, hap, fun _ _ => .inl rfl⟩⟩ ?_
    rintro ⟨i, G⟩ wr19 ⟨hV20, ⟨hi, hP, hG, hL, hge, hgl, hgG, hlG, hGo⟩⟩
    show CW _ _ _ _ [(44, .int .i64 (i : Nat)), (0, _), (2, _), (6, _), (42, _), (43, _)] _
    try dsimp only at hi
    try dsimp only at hP
    try dsimp only at hG
    try dsimp only at hL
    try dsimp only at hge
    try dsimp only at hgl
    try dsimp only at hgG
    try dsimp only at hlG
    try dsimp only at hGo
    refine cw_seq ?_
    refine cw_region ?_
    refine wl_val rfl (ex_lss rfl rfl) ?_
    refine wl_nil (nrm_then ?_)
    refine cw_seq ?_
    refine cw_if rfl (fun hc45 => ?_) (fun hc45 => ?_)
    · skip
      have hi' : i < N := by omega
      have hni := hn i hi'
      refine cw_skip (nrm_then ?_)
      refine cw_seq ?_
      refine cw_block ?_
      refine cw_seq ?_
      obtain ⟨gl13, hgl13, hal13, hcl13⟩ := own_cell1 hL (sv_get hi')
      have hSi := hge i hi' (Nat.le_refl _)
      refine cw_region ?_
      refine wl_val rfl (ex_move rfl) ?_
      refine wl_val rfl (ex_indexAddr (n := i) (by first | (rw [hal13]; done) | (rw [hal13]; rfl)) rfl Try.elem64 (by omega)) ?_
      refine wl_val rfl (ex_load1 rfl Try.agg33 hcl13) ?_
      rw [← hSi]
      refine wl_val rfl (ex_assign rfl) ?_
      refine wl_val rfl (ex_assign rfl) ?_
      refine wl_nil (nrm_then ?_)
      refine cw_seq ?_
      refine cw_region ?_
      refine wl_val rfl (ex_move rfl) ?_
      refine wl_val rfl (ex_assign rfl) ?_
      refine wl_nil (nrm_then ?_)
      refine cw_seq ?_
      refine cw_seq ?_
      refine cw_region ?_
      refine wl_val rfl (ex_move rfl) ?_
      refine wl_nil (nrm_then ?_)
      refine cw_block ?_
      refine cw_loop (α := Nat × Sl) ((0, G i)) (fun x => [(50, .int .i64 (x.1 : Nat)), (9, .slice x.2.a x.2.n x.2.c)]) [(0, _), (2, _), (6, _), (7, _), (42, _), (43, _), (44, _)] (fun x wr => Evo (fobs N S) w wr ∧ (x.1 ≤ 16 ∧ Tri wr N S G (upd G i x.2) (ctV S) ∧ OwnS wr 33 1 (some ⟨bg, 0, none⟩) N N (gv N G i) (some bg) ∧ OwnS wr 33 1 al N cc (sv N S) obl ∧ x.2.n = (S i).n + x.1 ∧ Apart (some bg) x.2.ob ∧ Apart obl x.2.ob ∧ (x.2.ob = (S i).ob ∨ Ge w x.2.ob))) (fun x => 16 - x.1) ⟨rfl, rfl, trivial⟩ ⟨rfl, rfl, rfl, rfl, rfl, rfl, rfl, trivial⟩ ⟨hV20, ⟨by omega, by rw [upd_same]; exact hP, hG, hL, by rw [hge i hi' (Nat.le_refl _)]; rfl, hgG i hi', hlG i hi', hGo i hi'⟩⟩ ?_
      rintro ⟨c, r⟩ wr21 ⟨hV22, ⟨hc, hP, hG, hL, hrn, hgr, hlr, hro⟩⟩
      show CW _ _ _ _ [(50, .int .i64 (c : Nat)), (9, .slice r.a r.n r.c), (0, _), (2, _), (6, _), (7, _), (42, _), (43, _), (44, _)] _
      try dsimp only at hc
      try dsimp only at hP
      try dsimp only at hG
      try dsimp only at hL
      try dsimp only at hrn
      try dsimp only at hgr
      try dsimp only at hlr
      try dsimp only at hro
      have hgu : ∀ k, k < N → Apart (some bg) (upd G i r k).ob := fun k hk => by by_cases e : k = i; { subst e; rw [upd_self]; exact hgr }; { rw [upd_ne e]; exact hgG k hk }
      refine cw_seq ?_
      refine cw_region ?_
      refine wl_val rfl (ex_lss rfl rfl) ?_
      refine wl_nil (nrm_then ?_)
      refine cw_seq ?_
      refine cw_if rfl (fun hc51 => ?_) (fun hc51 => ?_)
      · skip
        refine cw_skip (nrm_then ?_)
        refine cw_seq ?_
        refine cw_block ?_
        refine cw_region ?_
        refine wl_val rfl (ex_move rfl) ?_
        refine wl_val rfl (ex_move rfl) ?_
        refine wl_val rfl (ex_add_i64 rfl rfl (by omega) (by omega)) ?_
        refine wl_bslice (vs := [_]) rfl Try.slice33 rfl rfl rfl rfl fun b23 w24 hO25 hs26 hw27 => ?_
        have hA28 := Apart.new (Lt.own hG) hs26
        have hA29 := Apart.new (Lt.own hL) hs26
        have hG30 := Ge.new hV22 hs26
        have hE31 := hV22.then hw27
        have hF32 := hP.evo0 hw27
        have hO33 := hG.evo0 hw27
        have hO34 := hL.evo0 hw27
        refine wl_appendS rfl rfl rfl rfl Try.app33_33 (by have h := (hF32).fam.own i hi'; rw [upd_self] at h; exact h) (Src.ofOwn hO25 ⟨by first | rfl | assumption, trivial⟩) (by omega) fun a9 c9 w9 ob9 hO9 hw9 hob9 => ?_
        have hO9' : OwnS w9 3 1 a9 (r.n + 1) c9 (cl (ctV S i) (r.n + 1)) ob9 := by rw [cl_succ, show ctV S i r.n = iv (200000 + (i : Int)) from by unfold ctV ctZ; rw [if_neg (by omega), if_pos (by omega)]]; exact hO9
        have hP9 := Tri.app hF32 hi' (r := ⟨a9, r.n + 1, c9, ob9⟩) (by rw [upd_self]; simp only; omega) hO9' (by rw [upd_self]; exact hw9) (by rw [upd_self]; exact hob9)
        rw [upd_upd] at hP9
        have hob9' : ob9 = r.ob ∨ ∃ g, ob9 = some g ∧ w24.heap.size ≤ g := hob9.imp id fun ⟨g, h1, h2, _⟩ => ⟨g, h1, h2⟩
        have hgr9 := Apart.app hgr (Lt.own hO33) hob9'
        have hlr9 := Apart.app hlr (Lt.own hO34) hob9'
        have hro9 := ob_or hob9' hE31 hro
        have hE35 := hE31.step hw9 (sl_in hi' hro)
        have hB36 := hO33.evo hw9 (hgr.own)
        have hB37 := hO34.evo hw9 (hlr.own)
        refine wl_val rfl (ex_assign rfl) ?_
        refine wl_nil (nrm_block (nrm_then ?_))
        refine cw_region ?_
        refine wl_val rfl (ex_add_i64 rfl rfl (by omega) (by omega)) ?_
        refine wl_val rfl (ex_move rfl) ?_
        refine wl_nil (nrm_then ?_)
        refine ⟨(c + 1, ⟨a9, r.n + 1, c9, ob9⟩), ?_, ⟨rfl, rfl, trivial⟩, ⟨rfl, rfl, rfl, rfl, rfl, rfl, rfl, trivial⟩, hE35, ?_⟩
        · (try dsimp only); omega
        · skip
          try dsimp only
          refine ⟨by omega, hP9, hB36, hB37, by first | omega | (simp only; omega), hgr9, hlr9, hro9⟩
      · skip
        refine cw_exit (ex_then (ex_then (ex_here (nrm_then ?_))))
        refine cw_region ?_
        refine wl_val rfl (ex_move rfl) ?_
        refine wl_val rfl (ex_move rfl) ?_
        refine wl_val rfl (ex_move rfl) ?_
        refine wl_val rfl (ex_indexAddr (n := i) rfl rfl Try.elem64 (by omega)) ?_
        obtain ⟨g47, cur38, hg39, hx40, hcu41, hcs42, -⟩ := hG.at (by omega)
        cases hx40
        refine wl_store1L rfl rfl (rfl) Try.size33 hcu41 (hG.inb hcs42 (k := i) (j := 0) (by omega) (by omega) (by omega)) fun w43 hB44 hw45 => ?_
        replace hw45 := evo_ob hg39 hw45
        have hO46 := hG.set' hg39 hcu41 hB44
        have hE48 := hV22.step hw45 hgw.mem
        have hF49 := hP.evo hw45 (fun q hq => (hgu q hq).symm.own) (fun q hq => (hgS q hq).symm.own) (fun q hq => (hgG q hq).symm.own)
        have hO50 := hL.evo hw45 hlg.own
        refine wl_nil (nrm_block (nrm_then ?_))
        refine cw_region ?_
        refine wl_val rfl (ex_add_i64 rfl rfl (by omega) (by omega)) ?_
        refine wl_val rfl (ex_move rfl) ?_
        refine wl_nil (nrm_then ?_)
        refine ⟨(i + 1, upd G i r), ?_, ⟨rfl, trivial⟩, ⟨rfl, rfl, rfl, rfl, rfl, trivial⟩, hE48, ?_⟩
        · (try dsimp only); omega
        · skip
          try dsimp only
          have hP5 := Tri.setG hF49 hi'
          rw [upd_self] at hP5
          refine ⟨by omega, hP5, by rw [← gv_upd]; have h := hO46; rw [Nat.mul_one, Nat.zero_add] at h; exact h, hO50, fun k hk h => by rw [upd_ne (by omega)]; exact hge k hk (by omega), fun k hk h => ?_, hgu, fun k hk => ?_, fun k hk => ?_⟩
          · by_cases e : k = i; { subst e; rw [upd_self]; omega }; { rw [upd_ne e]; exact hgl k hk (by omega) }
          · by_cases e : k = i; { subst e; rw [upd_self]; exact hlr }; { rw [upd_ne e]; exact hlG k hk }
          · by_cases e : k = i; { subst e; rw [upd_self]; exact hro }; { rw [upd_ne e]; exact hGo k hk }
    · skip
      have hiN : i = N := by omega
      have hG3 := hG
      rw [hiN, gv_all] at hG3
      have hGn : ∀ k, k < N → (G k).n = (S k).n + 16 := fun k hk => hgl k hk (by omega)
      refine cw_exit (ex_then (ex_then (ex_here (nrm_then ?_))))
      refine cw_seq ?_
      refine cw_region ?_
      refine wl_val rfl (ex_move rfl) ?_
      refine wl_val rfl (ex_len_slice rfl Try.underlying64 rfl) ?_
      refine wl_make (len := N) (c := N) rfl rfl rfl Try.make64 (by omega) (by omega) (by omega) (by decide) (by omega) (by omega) fun bh w52 hH0 hs54 hw55 => ?_
      have hA56 := Apart.new (Lt.own hG3) hs54
      have hA57 := Apart.new (Lt.own hL) hs54
      have hG58 := Ge.new hV20 hs54
      have hG59 := Ge.new (Evo.refl [] wr19) hs54
      have hE60 := hV20.then hw55
      have hE61 := (Evo.refl [] wr19).then hw55
      have hF62 := hP.evo0 hw55
      have hO63 := hG3.evo0 hw55
      have hO64 := hL.evo0 hw55
      rw [gv_zero N G] at hH0
      have hhw : Ge w (some bh) := hG58
      have hlh : Apart obl (some bh) := hA57
      have hgh : Apart (some bg) (some bh) := hA56
      have hhS : ∀ k, k < N → Apart (some bh) (S k).ob := fun k hk => (Apart.fresh (hP.lL k hk) hG59).symm
      have hhG : ∀ k, k < N → Apart (some bh) (G k).ob := fun k hk => (Apart.fresh (hP.lG k hk) hG59).symm
      refine wl_val rfl (ex_assign rfl) ?_
      refine wl_nil (nrm_then ?_)
      refine cw_seq ?_
      refine cw_seq ?_
      refine cw_region ?_
      refine wl_val rfl (ex_move rfl) ?_
      refine wl_val rfl (ex_len_slice rfl Try.underlying64 rfl) ?_
      refine wl_val rfl (ex_move rfl) ?_
      refine wl_nil (nrm_then ?_)
      refine cw_block ?_
      refine cw_loop (α := Nat × (Nat → Sl)) ((0, G)) (fun x => [(68, .int .i64 (x.1 : Nat))]) [(0, _), (2, _), (6, _), (10, _), (66, _), (67, _)] (fun x wr => Evo (fobs N S) w wr ∧ (x.1 ≤ N ∧ Tri wr N S G x.2 (ctV S) ∧ OwnS wr 33 1 (some ⟨bg, 0, none⟩) N N (sv N G) (some bg) ∧ OwnS wr 33 1 (some ⟨bh, 0, none⟩) N N (gv N x.2 x.1) (some bh) ∧ OwnS wr 33 1 al N cc (sv N S) obl ∧ (∀ k, k < N → x.1 ≤ k → x.2 k = G k) ∧ (∀ k, k < N → k < x.1 → (x.2 k).n = (S k).n + 316) ∧ (∀ k, k < N → Apart (some bg) (x.2 k).ob) ∧ (∀ k, k < N → Apart (some bh) (x.2 k).ob) ∧ (∀ k, k < N → Apart obl (x.2 k).ob) ∧ (∀ k, k < N → (x.2 k).ob = (S k).ob ∨ Ge w (x.2 k).ob))) (fun x => N - x.1) ⟨rfl, trivial⟩ ⟨rfl, rfl, rfl, rfl, rfl, rfl, trivial⟩ ⟨hE60, ⟨Nat.zero_le _, hF62, hO63, hH0, hO64, fun _ _ _ => rfl, fun k _ h => by omega, hgG, hhG, hlG, hGo⟩⟩ ?_
      rintro ⟨i, t⟩ wr65 ⟨hV66, ⟨hi, hP, hG, hH, hL, htg, htl, hgt, hht, hlt, hto⟩⟩
      show CW _ _ _ _ [(68, .int .i64 (i : Nat)), (0, _), (2, _), (6, _), (10, _), (66, _), (67, _)] _
      try dsimp only at hi
      try dsimp only at hP
      try dsimp only at hG
      try dsimp only at hH
      try dsimp only at hL
      try dsimp only at htg
      try dsimp only at htl
      try dsimp only at hgt
      try dsimp only at hht
      try dsimp only at hlt
      try dsimp only at hto
      refine cw_seq ?_
      refine cw_region ?_
      refine wl_val rfl (ex_lss rfl rfl) ?_
      refine wl_nil (nrm_then ?_)
      refine cw_seq ?_
      refine cw_if rfl (fun hc69 => ?_) (fun hc69 => ?_)
      · skip
        have hi' : i < N := by omega
        have hni := hn i hi'
        refine cw_skip (nrm_then ?_)
        refine cw_seq ?_
        refine cw_block ?_
        refine cw_seq ?_
        refine cw_region ?_
        refine wl_val rfl (ex_move rfl) ?_
        refine wl_val rfl (ex_indexAddr (n := i) rfl rfl Try.elem64 (by omega)) ?_
        refine wl_val rfl (ex_load1 rfl Try.agg33 (hG.get1 (sv_get hi'))) ?_
        refine wl_val rfl (ex_assign rfl) ?_
        refine wl_val rfl (ex_assign rfl) ?_
        refine wl_nil (nrm_then ?_)
        refine cw_seq ?_
        refine cw_region ?_
        refine wl_make (len := 300) (c := 300) rfl rfl rfl Try.make33 (by omega) (by omega) (by omega) (by decide) (by omega) (by omega) fun bt w68 hT0 hs70 hw71 => ?_
        have hA72 := Apart.new (Lt.own hG) hs70
        have hA73 := Apart.new (Lt.own hH) hs70
        have hA74 := Apart.new (Lt.own hL) hs70
        have hG75 := Ge.new hV66 hs70
        have hG76 := Ge.new (Evo.refl [] wr65) hs70
        have hE77 := hV66.then hw71
        have hE78 := (Evo.refl [] wr65).then hw71
        have hF79 := hP.evo0 hw71
        have hO80 := hG.evo0 hw71
        have hO81 := hH.evo0 hw71
        have hO82 := hL.evo0 hw71
        have htT : ∀ k, k < N → Apart (some bt) (t k).ob := fun k hk => (Apart.fresh (hP.fam.lt hk) hG76).symm
        have htS : ∀ k, k < N → Apart (some bt) (S k).ob := fun k hk => (Apart.fresh (hP.lL k hk) hG76).symm
        have htG : ∀ k, k < N → Apart (some bt) (G k).ob := fun k hk => (Apart.fresh (hP.lG k hk) hG76).symm
        refine wl_val rfl (ex_assign rfl) ?_
        refine wl_nil (nrm_then ?_)
        refine cw_seq ?_
        refine cw_seq ?_
        refine cw_region ?_
        refine wl_val rfl (ex_move rfl) ?_
        refine wl_val rfl (ex_len_slice rfl Try.underlying33 rfl) ?_
        refine wl_val rfl (ex_move rfl) ?_
        refine wl_nil (nrm_then ?_)
        refine cw_block ?_
        refine cw_loop (α := Nat) (0) (fun c => [(76, .int .i64 (c : Nat))]) [(0, _), (2, _), (6, _), (10, _), (11, _), (12, _), (13, _), (66, _), (67, _), (68, _), (75, _)] (fun c wr => Evo (fobs N S) w wr ∧ (c ≤ 300 ∧ OwnS wr 3 1 (some ⟨bt, 0, none⟩) 300 300 (List.replicate c (iv (300000 + (i : Int))) ++ List.replicate (300 - c) (iv 0)) (some bt) ∧ Tri wr N S G t (ctV S) ∧ OwnS wr 33 1 (some ⟨bg, 0, none⟩) N N (sv N G) (some bg) ∧ OwnS wr 33 1 (some ⟨bh, 0, none⟩) N N (gv N t i) (some bh) ∧ OwnS wr 33 1 al N cc (sv N S) obl)) (fun c => 300 - c) ⟨rfl, trivial⟩ ⟨rfl, rfl, rfl, rfl, rfl, rfl, rfl, rfl, rfl, rfl, rfl, trivial⟩ ⟨hE77, ⟨by omega, by rw [zeros_rep2] at hT0; exact hT0, hF79, hO80, hO81, hO82⟩⟩ ?_
        rintro c wr83 ⟨hV84, ⟨hc, hT, hP, hG, hH, hL⟩⟩
        show CW _ _ _ _ [(76, _), (0, _), (2, _), (6, _), (10, _), (11, _), (12, _), (13, _), (66, _), (67, _), (68, _), (75, _)] _
        refine cw_seq ?_
        refine cw_region ?_
        refine wl_val rfl (ex_lss rfl rfl) ?_
        refine wl_nil (nrm_then ?_)
        refine cw_seq ?_
        refine cw_if rfl (fun hc77 => ?_) (fun hc77 => ?_)
        · skip
          refine cw_skip (nrm_then ?_)
          refine cw_seq ?_
          refine cw_block ?_
          refine cw_seq ?_
          refine cw_region ?_
          refine wl_val rfl (ex_move rfl) ?_
          refine wl_val rfl (ex_assign rfl) ?_
          refine wl_nil (nrm_then ?_)
          refine cw_region ?_
          refine wl_val rfl (ex_move rfl) ?_
          refine wl_val rfl (ex_move rfl) ?_
          refine wl_val rfl (ex_move rfl) ?_
          refine wl_val rfl (ex_add_i64 rfl rfl (by omega) (by omega)) ?_
          refine wl_val rfl (ex_indexAddr (n := c) rfl rfl Try.elem33 (by omega)) ?_
          obtain ⟨g94, cur85, hg86, hx87, hcu88, hcs89, -⟩ := hT.at (by omega)
          cases hx87
          refine wl_store1L rfl rfl (rfl) Try.size3 hcu88 (hT.inb hcs89 (k := c) (j := 0) (by omega) (by omega) (by omega)) fun w90 hB91 hw92 => ?_
          replace hw92 := evo_ob hg86 hw92
          have hO93 := hT.set' hg86 hcu88 hB91
          have hE95 := hV84.step hw92 hG75.mem
          have hF96 := hP.evo hw92 (fun q hq => (htT q hq).symm.own) (fun q hq => (htS q hq).symm.own) (fun q hq => (htG q hq).symm.own)
          have hO97 := hG.evo hw92 hA72.own
          have hO98 := hH.evo hw92 hA73.own
          have hO99 := hL.evo hw92 hA74.own
          refine wl_nil (nrm_block (nrm_then ?_))
          refine cw_region ?_
          refine wl_val rfl (ex_add_i64 rfl rfl (by omega) (by omega)) ?_
          refine wl_val rfl (ex_move rfl) ?_
          refine wl_nil (nrm_then ?_)
          refine ⟨c + 1, ?_, ⟨rfl, trivial⟩, ⟨rfl, rfl, rfl, rfl, rfl, rfl, rfl, rfl, rfl, rfl, rfl, trivial⟩, hE95, ?_⟩
          · omega
          · skip
            exact ⟨by omega, by rw [← rep_fill (by omega)]; have h := hO93; rw [Nat.mul_one, Nat.zero_add] at h; exact h, hF96, hO97, hO98, hO99⟩
        · skip
          refine cw_exit (ex_then (ex_then (ex_here (nrm_then ?_))))
          refine cw_region ?_
          refine wl_val rfl (ex_move rfl) ?_
          refine wl_val rfl (ex_move rfl) ?_
          refine wl_val rfl (ex_move rfl) ?_
          refine wl_val rfl (ex_move rfl) ?_
          have hcc : c = 300 := by omega
          have hT3 := hT
          rw [hcc, Nat.sub_self, List.replicate_zero, List.append_nil] at hT3
          have hGi := hGn i hi'
          have hTi := htg i hi' (Nat.le_refl _)
          have hPi := (hP).fam.own i hi'
          rw [hTi] at hPi
          refine wl_appendS rfl rfl rfl rfl Try.app33_33 hPi (Src.ofOwn hT3 (allOne_rep 300 _)) (by have := hn i hi'; omega) fun a9 c9 w9 ob9 hO9 hw9 hob9 => ?_
          have hO9' : OwnS w9 3 1 a9 ((G i).n + 300) c9 (cl (ctV S i) ((G i).n + 300)) ob9 := by rw [cl_add _ _ (iv (300000 + (i : Int))) 300 (fun j h1 h2 => by unfold ctV ctZ; rw [if_neg (by omega), if_neg (by omega)])]; exact hO9
          have hP9 := Tri.app hP hi' (r := ⟨a9, (G i).n + 300, c9, ob9⟩) (by rw [hTi]; simp only; omega) hO9' (by rw [hTi]; exact hw9) (by rw [hTi]; exact hob9)
          have hob9' : ob9 = (G i).ob ∨ ∃ g, ob9 = some g ∧ wr83.heap.size ≤ g := hob9.imp id fun ⟨g, h1, h2, _⟩ => ⟨g, h1, h2⟩
          have hgu9 : ∀ k, k < N → Apart (some bg) (upd t i ⟨a9, (G i).n + 300, c9, ob9⟩ k).ob := fun k hk => by by_cases e : k = i; { subst e; rw [upd_self]; exact Apart.app (by have h := hgt k hk; rw [hTi] at h; exact h) (Lt.own hG) hob9' }; { rw [upd_ne e]; exact hgt k hk }
          have hhu9 : ∀ k, k < N → Apart (some bh) (upd t i ⟨a9, (G i).n + 300, c9, ob9⟩ k).ob := fun k hk => by by_cases e : k = i; { subst e; rw [upd_self]; exact Apart.app (by have h := hht k hk; rw [hTi] at h; exact h) (Lt.own hH) hob9' }; { rw [upd_ne e]; exact hht k hk }
          have hlu9 : ∀ k, k < N → Apart obl (upd t i ⟨a9, (G i).n + 300, c9, ob9⟩ k).ob := fun k hk => by by_cases e : k = i; { subst e; rw [upd_self]; exact Apart.app (by have h := hlt k hk; rw [hTi] at h; exact h) (Lt.own hL) hob9' }; { rw [upd_ne e]; exact hlt k hk }
          have hro9 := ob_or hob9' hV84 (hGo i hi')
          have hE100 := hV84.step hw9 (sl_in hi' (hGo i hi'))
          have hB101 := hG.evo hw9 ((hgG i hi').own)
          have hB102 := hH.evo hw9 ((hhG i hi').own)
          have hB103 := hL.evo hw9 ((hlG i hi').own)
          refine wl_val rfl (ex_indexAddr (n := i) rfl rfl Try.elem64 (by omega)) ?_
          obtain ⟨g113, cur104, hg105, hx106, hcu107, hcs108, -⟩ := hB102.at (by omega)
          cases hx106
          refine wl_store1L rfl rfl (rfl) Try.size33 hcu107 (hB102.inb hcs108 (k := i) (j := 0) (by omega) (by omega) (by omega)) fun w109 hB110 hw111 => ?_
          replace hw111 := evo_ob hg105 hw111
          have hO112 := hB102.set' hg105 hcu107 hB110
          have hE114 := hE100.step hw111 hhw.mem
          have hO115 := hB101.evo hw111 hgh.own
          have hO116 := hB103.evo hw111 hlh.own
          have hF117 := hP9.evo hw111 (fun q hq => (hhu9 q hq).symm.own) (fun q hq => (hhS q hq).symm.own) (fun q hq => (hhG q hq).symm.own)
          refine wl_nil (nrm_block (nrm_then ?_))
          refine cw_region ?_
          refine wl_val rfl (ex_add_i64 rfl rfl (by omega) (by omega)) ?_
          refine wl_val rfl (ex_move rfl) ?_
          refine wl_nil (nrm_then ?_)
          refine ⟨(i + 1, upd t i ⟨a9, (G i).n + 300, c9, ob9⟩), ?_, ⟨rfl, trivial⟩, ⟨rfl, rfl, rfl, rfl, rfl, rfl, trivial⟩, hE114, ?_⟩
          · (try dsimp only); omega
          · skip
            try dsimp only
            refine ⟨by omega, hF117, hO115, by rw [← gv_upd]; have h := hO112; rw [Nat.mul_one, Nat.zero_add] at h; exact h, hO116, fun k hk h => by rw [upd_ne (by omega)]; exact htg k hk (by omega), fun k hk h => ?_, hgu9, hhu9, hlu9, fun k hk => ?_⟩
            · by_cases e : k = i; { subst e; rw [upd_self]; have := hGn k hk; simp only; omega }; { rw [upd_ne e]; exact htl k hk (by omega) }
            · by_cases e : k = i; { subst e; rw [upd_self]; exact hro9 }; { rw [upd_ne e]; exact hto k hk }
      · skip
        have hiN : i = N := by omega
        have hH3 := hH
        rw [hiN, gv_all] at hH3
        refine cw_exit (ex_then (ex_then (ex_here (nrm_then ?_))))
        refine cw_seq ?_
        refine cw_seq ?_
        refine cw_region ?_
        refine wl_val rfl (ex_move rfl) ?_
        refine wl_val rfl (ex_len_slice rfl Try.underlying64 rfl) ?_
        refine wl_val rfl (ex_move rfl) ?_
        refine wl_nil (nrm_then ?_)
        refine cw_block ?_
        refine cw_loop (α := Nat) (0) (fun i => [(94, .int .i64 (i : Nat))]) [(6, _), (10, _), (92, _), (93, _)] (fun i wr => Evo [] wr65 wr ∧ (i ≤ N)) (fun i => N - i) ⟨rfl, trivial⟩ ⟨rfl, rfl, rfl, rfl, trivial⟩ ⟨Evo.refl _ _, Nat.zero_le _⟩ ?_
        rintro i wr118 ⟨hV119, hi⟩
        show CW _ _ _ _ [(94, _), (6, _), (10, _), (92, _), (93, _)] _
        have hE120 := hV66.then hV119
        have hF121 := hP.evo0 hV119
        have hO122 := hG.evo0 hV119
        have hO123 := hH3.evo0 hV119
        have hO124 := hL.evo0 hV119
        refine cw_seq ?_
        refine cw_region ?_
        refine wl_val rfl (ex_lss rfl rfl) ?_
        refine wl_nil (nrm_then ?_)
        refine cw_seq ?_
        refine cw_if rfl (fun hc95 => ?_) (fun hc95 => ?_)
        · skip
          have hi' : i < N := by omega
          have hni := hn i hi'
          have hGi := hGn i hi'
          have hti := htl i hi' (by omega)
          refine cw_skip (nrm_then ?_)
          refine cw_seq ?_
          refine cw_block ?_
          refine cw_seq ?_
          obtain ⟨gl35, hgl35, hal35, hcl35⟩ := own_cell1 hO124 (sv_get hi')
          refine cw_region ?_
          refine wl_val rfl (ex_move rfl) ?_
          refine wl_val rfl (ex_indexAddr (n := i) (by first | (rw [hal35]; done) | (rw [hal35]; rfl)) rfl Try.elem64 (by omega)) ?_
          refine wl_val rfl (ex_load1 rfl Try.agg33 hcl35) ?_
          refine wl_val rfl (ex_assign rfl) ?_
          refine wl_val rfl (ex_assign rfl) ?_
          refine wl_nil (nrm_then ?_)
          refine cw_seq ?_
          refine cw_region ?_
          refine wl_val rfl (ex_move rfl) ?_
          refine wl_val rfl (ex_move rfl) ?_
          refine wl_val rfl (ex_indexAddr (n := i) rfl rfl Try.elem64 (by omega)) ?_
          refine wl_val rfl (ex_load1 rfl Try.agg33 (hO123.get1 (sv_get hi'))) ?_
          refine wl_val rfl (ex_len_slice rfl Try.underlying33 rfl) ?_
          refine wl_val rfl (ex_move rfl) ?_
          refine wl_nil (nrm_then ?_)
          refine cw_block ?_
          refine cw_loop (α := Nat) (0) (fun j => [(104, .int .i64 (j : Nat))]) [(6, _), (10, _), (15, _), (16, _), (92, _), (93, _), (94, _), (102, _), (103, _)] (fun j wr => Evo [] wr118 wr ∧ (j ≤ (t i).n)) (fun j => (t i).n - j) ⟨rfl, trivial⟩ ⟨rfl, rfl, rfl, rfl, rfl, rfl, rfl, rfl, rfl, trivial⟩ ⟨Evo.refl _ _, Nat.zero_le _⟩ ?_
          rintro j wr125 ⟨hV126, hj⟩
          show CW _ _ _ _ [(104, _), (6, _), (10, _), (15, _), (16, _), (92, _), (93, _), (94, _), (102, _), (103, _)] _
          have hE127 := hE120.then hV126
          have hE128 := hV119.then hV126
          have hF129 := hF121.evo0 hV126
          have hO130 := hO122.evo0 hV126
          have hO131 := hO123.evo0 hV126
          have hO132 := hO124.evo0 hV126
          refine cw_seq ?_
          refine cw_region ?_
          refine wl_val rfl (ex_lss rfl rfl) ?_
          refine wl_nil (nrm_then ?_)
          refine cw_seq ?_
          refine cw_if rfl (fun hc105 => ?_) (fun hc105 => ?_)
          · skip
            refine cw_skip (nrm_then ?_)
            refine cw_seq ?_
            refine cw_block ?_
            refine cw_seq ?_
            obtain ⟨gT, haT, -, hcT⟩ := own_rd ((hF129).fam.own i hi') j (by omega)
            refine cw_region ?_
            refine wl_val rfl (ex_move rfl) ?_
            refine wl_val rfl (ex_indexAddr (n := j) (congrArg some (slv haT)) rfl Try.elem33 (by omega)) ?_
            refine wl_val rfl (ex_load1 rfl Try.agg3 hcT) ?_
            refine wl_val rfl (ex_assign rfl) ?_
            refine wl_val rfl (ex_assign rfl) ?_
            refine wl_nil (nrm_then ?_)
            refine cw_seq ?_
            refine cw_region ?_
            refine wl_val rfl (ex_move rfl) ?_
            refine wl_val rfl (ex_add_i64 rfl rfl (by omega) (by omega)) ?_
            refine wl_val rfl (ex_assign rfl) ?_
            refine wl_nil (nrm_then ?_)
            refine cw_seq ?_
            refine cw_cut (α := Int) (fun x => [(19, .int .i64 x)]) [(6, _), (10, _), (15, _), (16, _), (17, _), (18, _), (92, _), (93, _), (94, _), (102, _), (103, _), (104, _)] (fun x wr => Evo [] wr125 wr ∧ (x = if j < (S i).n then 1000 + (i : Int) else 200000 + (i : Int))) ⟨rfl, rfl, rfl, rfl, rfl, rfl, rfl, rfl, rfl, rfl, rfl, rfl, trivial⟩ ?_ ?_
            · skip
              refine cw_seq ?_
              refine cw_region ?_
              refine wl_val rfl (ex_move rfl) ?_
              refine wl_val rfl (ex_move rfl) ?_
              refine wl_val rfl (ex_len_slice rfl Try.underlying33 rfl) ?_
              refine wl_val rfl (ex_geq rfl rfl) ?_
              refine wl_nil (nrm_then ?_)
              refine cw_if rfl (fun hc114 => ?_) (fun hc114 => ?_)
              · skip
                refine cw_region ?_
                refine wl_val rfl (ex_move rfl) ?_
                refine wl_val rfl (ex_add_i64 rfl rfl (by omega) (by omega)) ?_
                refine wl_val rfl (ex_assign rfl) ?_
                refine wl_nil (nrm_then ?_)
                refine ⟨_, ⟨rfl, trivial⟩, ⟨rfl, rfl, rfl, rfl, rfl, rfl, rfl, rfl, rfl, rfl, rfl, rfl, trivial⟩, (Evo.refl [] wr125), ?_⟩
                split <;> omega
              · skip
                refine cw_skip (nrm_then ?_)
                refine ⟨_, ⟨rfl, trivial⟩, ⟨rfl, rfl, rfl, rfl, rfl, rfl, rfl, rfl, rfl, rfl, rfl, rfl, trivial⟩, (Evo.refl [] wr125), ?_⟩
                split <;> omega
            · skip
              rintro x1 w133 ⟨hV134, hx1⟩
              refine nrm_then ?_
              show CW _ _ _ _ [(19, _), (6, _), (10, _), (15, _), (16, _), (17, _), (18, _), (92, _), (93, _), (94, _), (102, _), (103, _), (104, _)] _
              have hE135 := hE127.then hV134
              have hE136 := hE128.then hV134
              have hE137 := hV126.then hV134
              have hF138 := hF129.evo0 hV134
              have hO139 := hO130.evo0 hV134
              have hO140 := hO131.evo0 hV134
              have hO141 := hO132.evo0 hV134
              refine cw_seq ?_
              refine cw_cut (α := Int) (fun x => [(19, .int .i64 x)]) [(6, _), (10, _), (15, _), (16, _), (17, _), (18, _), (92, _), (93, _), (94, _), (102, _), (103, _), (104, _)] (fun x wr => Evo [] w133 wr ∧ (x = ctZ (S i).n i j)) ⟨rfl, rfl, rfl, rfl, rfl, rfl, rfl, rfl, rfl, rfl, rfl, rfl, trivial⟩ ?_ ?_
              · skip
                refine cw_seq ?_
                refine cw_region ?_
                refine wl_val rfl (ex_move rfl) ?_
                refine wl_val rfl (ex_move rfl) ?_
                refine wl_val rfl (ex_len_slice rfl Try.underlying33 rfl) ?_
                refine wl_val rfl (ex_add_i64 rfl rfl (by omega) (by omega)) ?_
                refine wl_val rfl (ex_geq rfl rfl) ?_
                refine wl_nil (nrm_then ?_)
                refine cw_if rfl (fun hc121 => ?_) (fun hc121 => ?_)
                · skip
                  refine cw_region ?_
                  refine wl_val rfl (ex_move rfl) ?_
                  refine wl_val rfl (ex_add_i64 rfl rfl (by omega) (by omega)) ?_
                  refine wl_val rfl (ex_assign rfl) ?_
                  refine wl_nil (nrm_then ?_)
                  refine ⟨_, ⟨rfl, trivial⟩, ⟨rfl, rfl, rfl, rfl, rfl, rfl, rfl, rfl, rfl, rfl, rfl, rfl, trivial⟩, (Evo.refl [] w133), ?_⟩
                  unfold ctZ
                  repeat' split at hx1
                  all_goals (repeat' split)
                  all_goals omega
                · skip
                  refine cw_skip (nrm_then ?_)
                  refine ⟨_, ⟨rfl, trivial⟩, ⟨rfl, rfl, rfl, rfl, rfl, rfl, rfl, rfl, rfl, rfl, rfl, rfl, trivial⟩, (Evo.refl [] w133), ?_⟩
                  unfold ctZ
                  repeat' split at hx1
                  all_goals (repeat' split)
                  all_goals omega
              · skip
                rintro x2 w142 ⟨hV143, hx2⟩
                refine nrm_then ?_
                show CW _ _ _ _ [(19, _), (6, _), (10, _), (15, _), (16, _), (17, _), (18, _), (92, _), (93, _), (94, _), (102, _), (103, _), (104, _)] _
                have hE144 := hE135.then hV143
                have hE145 := hE136.then hV143
                have hE146 := hE137.then hV143
                have hF147 := hF138.evo0 hV143
                have hO148 := hO139.evo0 hV143
                have hO149 := hO140.evo0 hV143
                have hO150 := hO141.evo0 hV143
                refine cw_seq ?_
                refine cw_region ?_
                refine wl_val rfl (ex_move rfl) ?_
                refine wl_val rfl (ex_move rfl) ?_
                refine wl_val rfl (ex_neq rfl rfl) ?_
                refine wl_val rfl (ex_move rfl) ?_
                refine wl_split (t := 127) rfl (fun hs127 => ?_) (fun hs127 => ?_)
                · skip
                  exact absurd hx2.symm hs127
                · skip
                  refine wl_go rfl rfl rfl rfl ?_
                  refine wl_val rfl (ex_move rfl) ?_
                  refine wl_go rfl rfl rfl rfl ?_
                  refine wl_val rfl (ex_move rfl) ?_
                  refine wl_go rfl rfl rfl rfl ?_
                  refine wl_val rfl (ex_len_slice rfl Try.underlying33 rfl) ?_
                  refine wl_go rfl rfl rfl rfl ?_
                  refine wl_val rfl (ex_lss rfl rfl) ?_
                  refine wl_go rfl rfl rfl rfl ?_
                  refine wl_val rfl (ex_move rfl) ?_
                  refine wl_split (t := 132) rfl (fun hs132 => ?_) (fun hs132 => ?_)
                  · skip
                    obtain ⟨gs, has, -, hcs⟩ := ((hF147).oL i hi').rd ((hF147).fam.own i hi') j (by omega)
                    refine wl_go rfl rfl rfl rfl ?_
                    refine wl_val rfl (ex_move rfl) ?_
                    refine wl_go rfl rfl rfl rfl ?_
                    refine wl_val rfl (ex_move rfl) ?_
                    refine wl_go rfl rfl rfl rfl ?_
                    refine wl_val rfl (ex_indexAddr (n := j) (congrArg some (slv has)) rfl Try.elem33 (by omega)) ?_
                    refine wl_go rfl rfl rfl rfl ?_
                    refine wl_val rfl (ex_load1 rfl Try.agg3 hcs) ?_
                    refine wl_go rfl rfl rfl rfl ?_
                    refine wl_val rfl (ex_move rfl) ?_
                    refine wl_go rfl rfl rfl rfl ?_
                    refine wl_val rfl (ex_neq rfl rfl) ?_
                    refine wl_go rfl rfl rfl rfl ?_
                    refine wl_val rfl (ex_pick_t rfl rfl) ?_
                    refine wl_val rfl (ex_pick_f rfl rfl) ?_
                    refine wl_val rfl (ex_move rfl) ?_
                    refine wl_split (t := 141) rfl (fun hs141 => ?_) (fun hs141 => ?_)
                    · skip
                      exact absurd hx2.symm hs141
                    · skip
                      refine wl_go rfl rfl rfl rfl ?_
                      refine wl_val rfl (ex_move rfl) ?_
                      refine wl_go rfl rfl rfl rfl ?_
                      refine wl_val rfl (ex_move rfl) ?_
                      refine wl_go rfl rfl rfl rfl ?_
                      refine wl_val rfl (ex_move rfl) ?_
                      refine wl_go rfl rfl rfl rfl ?_
                      refine wl_val rfl (ex_indexAddr (n := i) rfl rfl Try.elem64 (by omega)) ?_
                      refine wl_go rfl rfl rfl rfl ?_
                      refine wl_val rfl (ex_load1 rfl Try.agg33 (hO148.get1 (sv_get hi'))) ?_
                      refine wl_go rfl rfl rfl rfl ?_
                      refine wl_val rfl (ex_len_slice rfl Try.underlying33 rfl) ?_
                      refine wl_go rfl rfl rfl rfl ?_
                      refine wl_val rfl (ex_lss rfl rfl) ?_
                      refine wl_go rfl rfl rfl rfl ?_
                      refine wl_val rfl (ex_move rfl) ?_
                      refine wl_split (t := 149) rfl (fun hs149 => ?_) (fun hs149 => ?_)
                      · skip
                        obtain ⟨gr, har, -, hcr⟩ := ((hF147).oG i hi').rd ((hF147).fam.own i hi') j (by omega)
                        refine wl_go rfl rfl rfl rfl ?_
                        refine wl_val rfl (ex_move rfl) ?_
                        refine wl_go rfl rfl rfl rfl ?_
                        refine wl_val rfl (ex_move rfl) ?_
                        refine wl_go rfl rfl rfl rfl ?_
                        refine wl_val rfl (ex_indexAddr (n := i) rfl rfl Try.elem64 (by omega)) ?_
                        refine wl_go rfl rfl rfl rfl ?_
                        refine wl_val rfl (ex_load1 rfl Try.agg33 (hO148.get1 (sv_get hi'))) ?_
                        refine wl_go rfl rfl rfl rfl ?_
                        refine wl_val rfl (ex_move rfl) ?_
                        refine wl_go rfl rfl rfl rfl ?_
                        refine wl_val rfl (ex_indexAddr (n := j) (congrArg some (slv har)) rfl Try.elem33 (by omega)) ?_
                        refine wl_go rfl rfl rfl rfl ?_
                        refine wl_val rfl (ex_load1 rfl Try.agg3 hcr) ?_
                        refine wl_go rfl rfl rfl rfl ?_
                        refine wl_val rfl (ex_move rfl) ?_
                        refine wl_go rfl rfl rfl rfl ?_
                        refine wl_val rfl (ex_neq rfl rfl) ?_
                        refine wl_go rfl rfl rfl rfl ?_
                        refine wl_val rfl (ex_pick_t rfl rfl) ?_
                        refine wl_val rfl (ex_pick_f rfl rfl) ?_
                        refine wl_nil (nrm_then ?_)
                        refine cw_if rfl (fun hc160 => ?_) (fun hc160 => ?_)
                        · skip
                          refine cw_seq ?_
                          refine cw_region ?_
                          refine wl_val rfl (ex_assign rfl) ?_
                          refine wl_nil (nrm_then ?_)
                          refine cw_ret (ret_block (ret_then (ret_then (ret_block (ret_block (ret_then (ret_then (ret_block (ret_then (body_ret1 rfl rfl ?_))))))))))
                          exact absurd hx2.symm hc160
                        · skip
                          refine cw_skip (nrm_block (nrm_then ?_))
                          refine cw_region ?_
                          refine wl_val rfl (ex_add_i64 rfl rfl (by omega) (by omega)) ?_
                          refine wl_val rfl (ex_move rfl) ?_
                          refine wl_nil (nrm_then ?_)
                          refine ⟨j + 1, ?_, ⟨rfl, trivial⟩, ⟨rfl, rfl, rfl, rfl, rfl, rfl, rfl, rfl, rfl, trivial⟩, hE146, ?_⟩
                          · omega
                          · skip
                            omega
                      · skip
                        refine wl_no rfl rfl rfl rfl rfl rfl ?_
                        refine wl_no rfl rfl rfl rfl rfl rfl ?_
                        refine wl_no rfl rfl rfl rfl rfl rfl ?_
                        refine wl_no rfl rfl rfl rfl rfl rfl ?_
                        refine wl_no rfl rfl rfl rfl rfl rfl ?_
                        refine wl_no rfl rfl rfl rfl rfl rfl ?_
                        refine wl_no rfl rfl rfl rfl rfl rfl ?_
                        refine wl_no rfl rfl rfl rfl rfl rfl ?_
                        refine wl_no rfl rfl rfl rfl rfl rfl ?_
                        refine wl_go rfl rfl rfl rfl ?_
                        refine wl_val rfl (ex_pick_f rfl rfl) ?_
                        refine wl_val rfl (ex_pick_f rfl rfl) ?_
                        refine wl_nil (nrm_then ?_)
                        refine cw_false rfl ?_
                        refine cw_skip (nrm_block (nrm_then ?_))
                        refine cw_region ?_
                        refine wl_val rfl (ex_add_i64 rfl rfl (by omega) (by omega)) ?_
                        refine wl_val rfl (ex_move rfl) ?_
                        refine wl_nil (nrm_then ?_)
                        refine ⟨j + 1, ?_, ⟨rfl, trivial⟩, ⟨rfl, rfl, rfl, rfl, rfl, rfl, rfl, rfl, rfl, trivial⟩, hE146, ?_⟩
                        · omega
                        · skip
                          omega
                  · skip
                    refine wl_no rfl rfl rfl rfl rfl rfl ?_
                    refine wl_no rfl rfl rfl rfl rfl rfl ?_
                    refine wl_no rfl rfl rfl rfl rfl rfl ?_
                    refine wl_no rfl rfl rfl rfl rfl rfl ?_
                    refine wl_no rfl rfl rfl rfl rfl rfl ?_
                    refine wl_no rfl rfl rfl rfl rfl rfl ?_
                    refine wl_go rfl rfl rfl rfl ?_
                    refine wl_val rfl (ex_pick_f rfl rfl) ?_
                    refine wl_val rfl (ex_pick_f rfl rfl) ?_
                    refine wl_val rfl (ex_move rfl) ?_
                    refine wl_go rfl rfl rfl rfl ?_
                    refine wl_val rfl (ex_move rfl) ?_
                    refine wl_go rfl rfl rfl rfl ?_
                    refine wl_val rfl (ex_move rfl) ?_
                    refine wl_go rfl rfl rfl rfl ?_
                    refine wl_val rfl (ex_move rfl) ?_
                    refine wl_go rfl rfl rfl rfl ?_
                    refine wl_val rfl (ex_indexAddr (n := i) rfl rfl Try.elem64 (by omega)) ?_
                    refine wl_go rfl rfl rfl rfl ?_
                    refine wl_val rfl (ex_load1 rfl Try.agg33 (hO148.get1 (sv_get hi'))) ?_
                    refine wl_go rfl rfl rfl rfl ?_
                    refine wl_val rfl (ex_len_slice rfl Try.underlying33 rfl) ?_
                    refine wl_go rfl rfl rfl rfl ?_
                    refine wl_val rfl (ex_lss rfl rfl) ?_
                    refine wl_go rfl rfl rfl rfl ?_
                    refine wl_val rfl (ex_move rfl) ?_
                    refine wl_split (t := 149) rfl (fun hs149 => ?_) (fun hs149 => ?_)
                    · skip
                      obtain ⟨gr, har, -, hcr⟩ := ((hF147).oG i hi').rd ((hF147).fam.own i hi') j (by omega)
                      refine wl_go rfl rfl rfl rfl ?_
                      refine wl_val rfl (ex_move rfl) ?_
                      refine wl_go rfl rfl rfl rfl ?_
                      refine wl_val rfl (ex_move rfl) ?_
                      refine wl_go rfl rfl rfl rfl ?_
                      refine wl_val rfl (ex_indexAddr (n := i) rfl rfl Try.elem64 (by omega)) ?_
                      refine wl_go rfl rfl rfl rfl ?_
                      refine wl_val rfl (ex_load1 rfl Try.agg33 (hO148.get1 (sv_get hi'))) ?_
                      refine wl_go rfl rfl rfl rfl ?_
                      refine wl_val rfl (ex_move rfl) ?_
                      refine wl_go rfl rfl rfl rfl ?_
                      refine wl_val rfl (ex_indexAddr (n := j) (congrArg some (slv har)) rfl Try.elem33 (by omega)) ?_
                      refine wl_go rfl rfl rfl rfl ?_
                      refine wl_val rfl (ex_load1 rfl Try.agg3 hcr) ?_
                      refine wl_go rfl rfl rfl rfl ?_
                      refine wl_val rfl (ex_move rfl) ?_
                      refine wl_go rfl rfl rfl rfl ?_
                      refine wl_val rfl (ex_neq rfl rfl) ?_
                      refine wl_go rfl rfl rfl rfl ?_
                      refine wl_val rfl (ex_pick_t rfl rfl) ?_
                      refine wl_val rfl (ex_pick_f rfl rfl) ?_
                      refine wl_nil (nrm_then ?_)
                      refine cw_if rfl (fun hc160 => ?_) (fun hc160 => ?_)
                      · skip
                        refine cw_seq ?_
                        refine cw_region ?_
                        refine wl_val rfl (ex_assign rfl) ?_
                        refine wl_nil (nrm_then ?_)
                        refine cw_ret (ret_block (ret_then (ret_then (ret_block (ret_block (ret_then (ret_then (ret_block (ret_then (body_ret1 rfl rfl ?_))))))))))
                        exact absurd hx2.symm hc160
                      · skip
                        refine cw_skip (nrm_block (nrm_then ?_))
                        refine cw_region ?_
                        refine wl_val rfl (ex_add_i64 rfl rfl (by omega) (by omega)) ?_
                        refine wl_val rfl (ex_move rfl) ?_
                        refine wl_nil (nrm_then ?_)
                        refine ⟨j + 1, ?_, ⟨rfl, trivial⟩, ⟨rfl, rfl, rfl, rfl, rfl, rfl, rfl, rfl, rfl, trivial⟩, hE146, ?_⟩
                        · omega
                        · skip
                          omega
                    · skip
                      refine wl_no rfl rfl rfl rfl rfl rfl ?_
                      refine wl_no rfl rfl rfl rfl rfl rfl ?_
                      refine wl_no rfl rfl rfl rfl rfl rfl ?_
                      refine wl_no rfl rfl rfl rfl rfl rfl ?_
                      refine wl_no rfl rfl rfl rfl rfl rfl ?_
                      refine wl_no rfl rfl rfl rfl rfl rfl ?_
                      refine wl_no rfl rfl rfl rfl rfl rfl ?_
                      refine wl_no rfl rfl rfl rfl rfl rfl ?_
                      refine wl_no rfl rfl rfl rfl rfl rfl ?_
                      refine wl_go rfl rfl rfl rfl ?_
                      refine wl_val rfl (ex_pick_f rfl rfl) ?_
                      refine wl_val rfl (ex_pick_f rfl rfl) ?_
                      refine wl_nil (nrm_then ?_)
                      refine cw_false rfl ?_
                      refine cw_skip (nrm_block (nrm_then ?_))
                      refine cw_region ?_
                      refine wl_val rfl (ex_add_i64 rfl rfl (by omega) (by omega)) ?_
                      refine wl_val rfl (ex_move rfl) ?_
                      refine wl_nil (nrm_then ?_)
                      refine ⟨j + 1, ?_, ⟨rfl, trivial⟩, ⟨rfl, rfl, rfl, rfl, rfl, rfl, rfl, rfl, rfl, trivial⟩, hE146, ?_⟩
                      · omega
                      · skip
                        omega
          · skip
            refine cw_exit (ex_then (ex_then (ex_here (nrm_block (nrm_then ?_)))))
            refine cw_region ?_
            refine wl_val rfl (ex_add_i64 rfl rfl (by omega) (by omega)) ?_
            refine wl_val rfl (ex_move rfl) ?_
            refine wl_nil (nrm_then ?_)
            refine ⟨i + 1, ?_, ⟨rfl, trivial⟩, ⟨rfl, rfl, rfl, rfl, trivial⟩, hE128, ?_⟩
            · omega
            · skip
              omega
        · skip
          refine cw_exit (ex_then (ex_then (ex_here (nrm_then ?_))))
          refine cw_seq ?_
          refine cw_region ?_
          refine wl_val rfl (ex_assign rfl) ?_
          refine wl_nil (nrm_then ?_)
          refine cw_ret (body_ret1 rfl rfl ?_)
          exact ⟨rfl, hE120⟩

end Go.Proofs.Ytopjnoblhleimaa
