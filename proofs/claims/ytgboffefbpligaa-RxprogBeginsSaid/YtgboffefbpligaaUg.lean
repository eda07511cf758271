/- The walk of the law RxprogBegins. -/
import Derived.Test.YtgboffefbpligaaUe
namespace Go.Proofs.Ytgboffefbpligaa
open Go.Proofs
open Go.W Go.RowKit
attribute [local irreducible] Decidable.decide
set_option linter.unusedSimpArgs false
set_option linter.unusedVariables false
theorem Try.goes13 : Goes Try.prog 13 := ⟨_, Try.func13, by kernel_rfl, by kernel_rfl⟩
theorem Try.goes6 : Goes Try.prog 6 := ⟨_, Try.func6, by kernel_rfl, by kernel_rfl⟩
theorem Try.goes7 : Goes Try.prog 7 := ⟨_, Try.func7, by kernel_rfl, by kernel_rfl⟩
theorem Try.goes8 : Goes Try.prog 8 := ⟨_, Try.func8, by kernel_rfl, by kernel_rfl⟩
theorem Try.goes9 : Goes Try.prog 9 := ⟨_, Try.func9, by kernel_rfl, by kernel_rfl⟩
theorem Try.slice23 : sliceB Try.prog 23 = some (25, 9) := by kernel_rfl


def aaaX : Rx := .mk 6 0 [] 3 (-1) false 0 (ByteArray.mk #[]) [litX 97]
theorem aaa_rx {w : World} {b : Nat} (hO : OwnS w 25 9 (some ⟨b, 0, none⟩) 1 1 (litV 97) (some b)) :
    RRx 2 [] w [iv 6, .int .i32 0, .slice none 0 0, iv 3, iv (-1), .bool false, iv 0, .string (ByteArray.mk #[]), .slice (some ⟨b, 0, none⟩) 1 1] aaaX := by
  refine ⟨_, _, rfl, rnil0, RSl.ofOwn (rows := [litV 97]) hO ⟨rfl, fun k hk hk' => ?_⟩ rfl (fun _ _ h => by cases h), Nat.zero_le _, Nat.zero_le _, by show 1 ≤ _; decide⟩
  have e : k = 0 := by have : k < 1 := hk; omega
  subst e
  exact ⟨rfl, litX_rx 97 _ _⟩
theorem aaa_ok : aaaX.Ok := by
  obtain ⟨st1, h1⟩ := litX_ok (r := 97) (by decide) (by decide)
  have hp : NodeP aaaX := ⟨by show (1 : Int) ≤ 6; decide, by show (6 : Int) ≤ 13; decide, .inr rfl, .inr rfl, .inl rfl, .inr ⟨rfl, rfl⟩, fun h => absurd (show (6 : Int) = 2 from h) (by decide), fun h => absurd (show (6 : Int) = 3 from h) (by decide), fun h => absurd (show (6 : Int) = 4 ∨ (6 : Int) = 5 from h) (by decide), fun _ => ⟨by show (0 : Int) ≤ 3; decide, by show (3 : Int) ≤ 1000; decide, .inl rfl, rfl⟩, fun h => absurd (show (6 : Int) = 7 from h) (by decide), fun h => absurd h (by unfold Leafy; show ¬ ¬ ((6 : Int) = 4 ∨ (6 : Int) = 5 ∨ (6 : Int) = 6 ∨ (6 : Int) = 7); decide)⟩
  have hl : NodeP (litX 97) := (fine_good _ _ _ _ h1).node
  refine ⟨(2, []), ?_⟩
  rw [fine_yes (x := aaaX) (b := 0) (st := (0, [])) ⟨by decide, by show (if (6 : Int) = 7 then _ else _) ≤ 250; decide, hp, fun h => absurd (show (6 : Int) = 7 from h) (by decide)⟩]
  show fineKids [litX 97] 6 0 (1, []) = _
  rw [fineKids]
  have e : (litX 97).fine (0 + if Brk (litX 97).kind 6 then 1 else 0) (1, []) = some (2, []) := by
    have hb : ¬ Brk (litX 97).kind 6 := by show ¬ Brk 2 6; decide
    rw [if_neg hb]
    rw [fine_yes (x := litX 97) (b := 0 + 0) (st := (1, [])) ⟨by decide, by show (if (2 : Int) = 7 then _ else _) ≤ 250; decide, hl, fun h => absurd (show (2 : Int) = 7 from h) (by decide)⟩]
    show fineKids [] _ _ _ = _
    rw [fineKids]
    rfl
  rw [e]
  show fineKids [] _ _ _ = _
  rw [fineKids]
theorem aaa_esz : aaaX.esz = 6 := by
  have h1 : (litX 97).esz = 1 := by rw [Rx.esz_eq]; rfl
  have h2 := esz6a (t := aaaX) rfl (by show (0 : Int) ≤ 3; decide) rfl
  have h3 : eszs aaaX.kids = 1 := by show eszs [litX 97] = 1; rw [eszs, eszs, h1]
  rw [h3] at h2
  have h4 : ((3 : Int) * (1 : Nat) + (1 : Nat) + 2) = 6 := by decide
  have h5 : (aaaX.esz : Int) = 6 := h2.trans h4
  omega
theorem aaa_head {s : ByteArray} {N : Nat} {h : ByteArray} (hy : aaaX.Ok → aaaX.esz + 1 ≤ 10000 → ∃ ex, HOf s N aaaX h ex) : h = ByteArray.mk #[97, 97, 97] := by
  obtain ⟨ex, h1⟩ := hy aaa_ok (by rw [aaa_esz]; decide)
  have h2 := h1.2.2.2 rfl (by show (-1 : Int) ≠ 0; decide) (litX 97) rfl rfl
  have e1 : bstr (formB (litX 97).r) = ByteArray.mk #[97] := by show bstr (formB 97) = _; rw [formB, if_pos (by unfold IsR; omega)]; rfl
  have e2 : decide (IsR (litX 97).r) = true := by rw [decide_eq_true_eq]; show IsR 97; unfold IsR; omega
  rw [h2, e1, e2]
  show (repHead 3 (-1) (ByteArray.mk #[97]) true).1 = _
  unfold repHead
  rw [if_neg (by decide), if_neg (by decide), if_neg (fun h => h.elim (fun h => h rfl) (fun h => absurd (congrArg ByteArray.size h) (by decide)))]
  rfl
theorem progOk_pos {x : Rx} {l : List In} {n : Nat} (h : ProgOk x l n) : 0 < l.length := by rw [h.len]; omega
theorem rprog_shape {X : List Nat} {w : World} {ps : List Value} {l : List In} (h : RProg X w ps l) : ∃ a c g nm, ps = [.slice a l.length c, iv 0, g, nm] ∧ g.oneCell' = true ∧ nm.oneCell' = true := by
  obtain ⟨vi, g, nm, rfl, ⟨a, c, rfl, -⟩, -, h1, h2⟩ := h
  exact ⟨a, c, g, nm, rfl, h1, h2⟩
theorem CompIs.shp {X : List Nat} {t : Rx} {w : World} {ps : List Value} {e : Int} (h : CompIs X t w ps e) : Shp ps := by
  rcases h with ⟨-, -, h⟩ | ⟨-, -, -, h⟩ | ⟨-, -, -, l, n, h, -⟩
  · exact h
  · exact h
  · obtain ⟨a, c, g, nm, h1, h2, h3⟩ := rprog_shape h
    exact ⟨a, l.length, c, g, nm, h1, h2, h3⟩
theorem CompIs.bad {X : List Nat} {t : Rx} {w : World} {ps : List Value} {e : Int} (h : CompIs X t w ps e) (he : e ≠ 0) : ¬ t.Ok ∨ 10000 < t.esz + 1 := by
  rcases h with ⟨h, -⟩ | ⟨-, h, -⟩ | ⟨-, -, h, -⟩
  · exact .inl h
  · exact .inr h
  · exact (he h).elim
theorem CompIs.fit {X : List Nat} {t : Rx} {w : World} {ps : List Value} {e : Int} (h : CompIs X t w ps e) (he : e = 0) : t.Ok ∧ t.esz + 1 ≤ 10000 ∧ ∃ l n, RProg X w ps l ∧ ProgOk t l n := by
  rcases h with ⟨-, h, -⟩ | ⟨-, -, h, -⟩ | ⟨h1, h2, -, h3⟩
  · omega
  · omega
  · exact ⟨h1, h2, h3⟩
theorem RProg.at {X : List Nat} {w : World} {a : Option Addr} {n c : Nat} {g nm : Value} {l : List In} (h : RProg X w [.slice a n c, iv 0, g, nm] l) : n = l.length ∧ l.length ≤ 10000 := by
  obtain ⟨vi, g', nm', h1, ⟨a', c', rfl, -⟩, h3, -⟩ := h
  cases h1
  exact ⟨rfl, h3⟩
theorem some_utf (s : ByteArray) : ∃ s1 N1, Utf s1 N1 ∧ ((∃ N, Utf s N) → s1 = s) := by
  by_cases h : ∃ N, Utf s N
  · obtain ⟨N, hN⟩ := h
    exact ⟨s, N, hN, fun _ => rfl⟩
  · exact ⟨ByteArray.mk #[], 0, ⟨rfl, fun k hk => (by cases hk)⟩, fun h1 => (h h1).elim⟩
theorem le_mul_len {a b : Nat} (h : 0 < b) : (a : Int) ≤ (a : Int) * (b : Int) := by exact_mod_cast Nat.le_mul_of_pos_right a h
theorem begins_fin {s s1 : ByteArray} {N1 : Nat} {t : Rx} {l : List In} {n : Nat} {r : Int} {h : ByteArray} (hU : Utf s1 N1) (hs : (∃ N, Utf s N) → s1 = s) (hT : TakenIs l s r) (h1 : r = 1) (hP : ProgOk t l n) (hh : ∃ ex, HOf s1 N1 t h ex) : h.size ≤ s.size ∧ s.extract 0 h.size = h := by
  rcases hT with ⟨h2, -⟩ | ⟨N, hN, h2⟩
  · omega
  · obtain rfl := hs ⟨N, hN⟩
    obtain rfl : N = N1 := utf_uniq hN.2 (.inl hN.1) hU
    rcases h2 with ⟨-, h2⟩ | ⟨h2, -⟩
    · obtain ⟨ex, hd, -⟩ := hh
      have h3 := hd 0 N (Nat.zero_le _) ((taken_iff hP hU).1 h2)
      have e0 : offs s1 0 = 0 := rfl
      rw [e0, hU.1, Nat.zero_add] at h3
      exact ⟨h3.1, h3.2.1⟩
    · omega

set_option maxHeartbeats 4000000 in
theorem begins_law {n : Nat} {w : World} {vs : List Value} {t : Rx} {s : ByteArray} (hx : RRx n [] w vs t) (hs : s.size ≤ 140737488351232) :
    Calls Try.prog 4 #[.agg vs.toArray, .string s] w (Ret fun v w' => v = .bool true ∧ Evo [] w w') := by
  obtain ⟨s1, N1, hU, hs1⟩ := some_utf s
  have hx0 := hx
  obtain ⟨m, xa, xc, ka, kc, hm, rfl, hrg, hk, bl1, bl2, bl3⟩ := hx.get
  refine calls_of_cw (N := 52) Try.func4 rfl rfl rfl ?_
  refine cw_seq ?_
  refine cw_region ?_
  refine wl_boxA rfl rfl fun b2 w1 hB2 hs3 hw4 => ?_
  have hsz_b2 := hs3
  have hG5 := Ge.new (Evo.refl [] w) hs3
  have hE6 := (Evo.refl [] w).then hw4
  refine wl_a ?_
  refine wl_nil (nrm_then ?_)
  refine cw_seq ?_
  refine cw_seq ?_
  refine cw_region ?_
  refine wl_call1 (vs := [_]) Try.goes7 rfl (lit_ok 97) rfl ?_
  rintro _ w7 ⟨rfl, hw8⟩
  have hE9 := hE6.then hw8
  have hB10 := hw8.blk0 hB2
  refine wl_bslice (vs := [_]) rfl Try.slice23 rfl rfl rfl rfl fun b11 w12 hO13 hs14 hw15 => ?_
  have hA16 := Apart.new (Lt.blk hB10) hs14
  have hG17 := Ge.new hE9 hs14
  have hE18 := hE9.then hw15
  have hB19 := hw15.blk0 hB10
  refine wl_val rfl (ex_build (vs := [(0, _), (3, _), (4, _), (8, _)]) Try.build25 rfl (cells := [_, _, _, _, _, _, _, _, _]) rfl) ?_
  refine wl_call1 (vs := [_]) Try.goes13 rfl (prefix_ok hU (n := 2) (t := aaaX) (aaa_rx hO13)) rfl ?_
  rintro _ w20 ⟨h1, rfl, -, hh1, hw21⟩
  have hE22 := hE18.then hw21
  have hB23 := hw21.blk0 hB19
  have hO24 := hO13.evo0 hw21
  refine wl_val rfl (ex_neqs rfl rfl) ?_
  refine wl_nil (nrm_then ?_)
  refine cw_if rfl (fun hc12 => ?_) (fun hc12 => ?_)
  ·skip
   exact (hc12 (aaa_head hh1)).elim
  ·skip
   refine cw_skip (nrm_then ?_)
   refine cw_seq ?_
   refine cw_seq ?_
   refine cw_region ?_
   refine wl_val rfl (ex_loadBlk rfl Try.agg25 Try.size25 hB23 rfl) ?_
   refine wl_call1 (vs := [_]) Try.goes9 rfl (wide_ok (RRx.pers _ _ _ _ _ _ hE22 hx0)) rfl ?_
   rintro _ w25 ⟨wb, rfl, hw26⟩
   have hE27 := hE22.then hw26
   have hB28 := hw26.blk0 hB23
   refine wl_nil (nrm_then ?_)
   refine cw_ifb rfl (fun hc14 => ?_) (fun hc14 => ?_)
   ·skip
    refine cw_seq ?_
    refine cw_region ?_
    refine wl_a ?_
    refine wl_nil (nrm_then ?_)
    refine cw_ret (ret_then (body_ret1 rfl rfl ?_))
    exact ⟨rfl, hE27⟩
   ·skip
    refine cw_skip (nrm_then ?_)
    refine cw_seq ?_
    refine cw_region ?_
    refine wl_val rfl (ex_loadBlk rfl Try.agg25 Try.size25 hB28 rfl) ?_
    refine wl_call1 (vs := [_]) Try.goes6 rfl (compile_ok (X := []) (fun b hb => by cases hb) (RRx.pers _ _ _ _ _ _ hE27 hx0)) rfl ?_
    rintro _ w29 ⟨hw30, ps2, e2, rfl, hc2⟩
    have hE31 := hE27.then hw30
    have hB32 := hw30.blk0 hB28
    obtain ⟨pa2, pn2, pc2, pg2, pm2, rfl, hpg2, hpm2⟩ := hc2.shp
    refine wl_m ?_
    refine wl_val rfl (ex_extract rfl rfl) ?_
    refine wl_val rfl (ex_extract rfl rfl) ?_
    refine wl_alloc rfl Try.zero29 fun b5 w33 hB34 hs35 hw36 => ?_
    have hsz_b5 := hs35
    have hA37 := Apart.new (Lt.blk hB32) hs35
    have hG38 := Ge.new hE31 hs35
    have hG39 := Ge.new (Evo.refl [] w29) hs35
    have hE40 := hE31.then hw36
    have hE41 := (Evo.refl [] w29).then hw36
    have hB42 := hw36.blk0 hB32
    refine wl_storeBlk rfl rfl Try.size29 hB34 rfl rfl ⟨by first | rfl | assumption, by first | rfl | assumption, by first | rfl | assumption, by first | rfl | assumption, trivial⟩ fun w43 hB44 hw45 => ?_
    have hE46 := hE40.step hw45 hG38.mem1
    have hE47 := hE41.step hw45 hG39.mem1
    have hB48 := hw45.blk hB42 hA37.nmem1
    try simp only [List.setIfInBounds_toArray, List.set_cons_zero, List.set_cons_succ, Nat.reduceAdd, Nat.zero_add, Nat.add_zero] at hB44
    refine wl_a ?_
    refine wl_nil (nrm_then ?_)
    refine cw_seq ?_
    refine cw_region ?_
    refine wl_val rfl (ex_loadBlk rfl Try.agg25 Try.size25 hB48 rfl) ?_
    refine wl_call1 (vs := [_]) Try.goes13 rfl (prefix_ok hU (RRx.pers _ _ _ _ _ _ hE46 hx0)) rfl ?_
    rintro _ w49 ⟨h2, rfl, hno, hyes, hw50⟩
    have hE51 := hE46.then hw50
    have hE52 := hE47.then hw50
    have hB53 := hw50.blk0 hB48
    have hB54 := hw50.blk0 hB44
    refine wl_a ?_
    refine wl_nil (nrm_then ?_)
    refine cw_seq ?_
    refine cw_seq ?_
    refine cw_region ?_
    refine wl_m ?_
    refine wl_val rfl (ex_neq rfl rfl) ?_
    refine wl_nil (nrm_then ?_)
    refine cw_if rfl (fun hc23 => ?_) (fun hc23 => ?_)
    ·skip
     refine cw_seq ?_
     refine cw_region ?_
     refine wl_m ?_
     refine wl_val rfl (ex_eqs rfl rfl) ?_
     refine wl_a ?_
     refine wl_nil (nrm_then ?_)
     refine cw_ret (ret_then (body_ret1 rfl rfl ?_))
     exact ⟨congrArg Value.bool (decide_eq_true (hno (hc2.bad (by omega)))), hE51⟩
    ·skip
     obtain ⟨hok, hz2, l2, n2, hp2, hP2⟩ := hc2.fit (by omega)
     obtain ⟨rfl, hll2⟩ := hp2.at
     have hmu := mul_bd (m := (s.size : Int)) (k := (l2.length : Int)) (a := 140737488351232) (b := 10000) (by omega) (by omega) (by omega) (by omega)
     refine cw_skip (nrm_then ?_)
     refine cw_seq ?_
     refine cw_seq ?_
     refine cw_region ?_
     refine wl_m ?_
     refine wl_val rfl (ex_len_str rfl Try.underlying9 rfl) ?_
     refine wl_val rfl (ex_fieldAddr rfl Try.fld29_0) ?_
     refine wl_val rfl (ex_load1 rfl Try.agg26 (cell_nth hB54 rfl)) ?_
     refine wl_val rfl (ex_len_slice rfl Try.underlying26 rfl) ?_
     refine wl_val rfl (ex_mul_i64 rfl rfl (by omega) (by omega)) ?_
     refine wl_val rfl (ex_gtr rfl rfl) ?_
     refine wl_m ?_
     refine wl_split (t := 33) rfl (fun hs33 => ?_) (fun hs33 => ?_)
     ·skip
      refine wl_n ?_
      refine wl_n ?_
      refine wl_n ?_
      refine wl_n ?_
      refine wl_pt ?_
      refine wl_nil (nrm_then ?_)
      refine cw_true rfl ?_
      refine cw_seq ?_
      refine cw_region ?_
      refine wl_a ?_
      refine wl_nil (nrm_then ?_)
      refine cw_ret (ret_then (body_ret1 rfl rfl ?_))
      exact ⟨rfl, hE51⟩
     ·skip
      have hls := le_mul_len (a := s.size) (progOk_pos hP2)
      have hs9 : s.size ≤ 1000000000 := by omega
      refine wl_g ?_
      refine wl_val rfl (ex_loadBlk rfl Try.agg29 Try.size29 hB54 rfl) ?_
      refine wl_g ?_
      refine wl_m ?_
      refine wl_g ?_
      refine wl_call1 (vs := [_, _]) Try.goes8 rfl (taken_ok (RProg.pers _ _ _ _ _ hE52 hp2) hP2.rng (progOk_pos hP2) hs9) rfl ?_
      rintro _ w55 ⟨hw56, r3, rfl, hT3⟩
      have hE57 := hE51.then hw56
      have hE58 := hE52.then hw56
      have hB59 := hw56.blk0 hB53
      have hB60 := hw56.blk0 hB54
      refine wl_g ?_
      refine wl_val rfl (ex_neq rfl rfl) ?_
      refine wl_pf ?_
      refine wl_nil (nrm_then ?_)
      refine cw_if rfl (fun hc38 => ?_) (fun hc38 => ?_)
      ·skip
       refine cw_seq ?_
       refine cw_region ?_
       refine wl_a ?_
       refine wl_nil (nrm_then ?_)
       refine cw_ret (ret_then (body_ret1 rfl rfl ?_))
       exact ⟨rfl, hE57⟩
      ·skip
       have hfin := begins_fin hU hs1 hT3 (by omega) hP2 (hyes hok hz2)
       refine cw_skip (nrm_then ?_)
       refine cw_seq ?_
       refine cw_region ?_
       refine wl_m ?_
       refine wl_val rfl (ex_len_str rfl Try.underlying9 rfl) ?_
       refine wl_m ?_
       refine wl_val rfl (ex_len_str rfl Try.underlying9 rfl) ?_
       refine wl_val rfl (ex_leq rfl rfl) ?_
       refine wl_m ?_
       refine wl_split (t := 44) rfl (fun hs44 => ?_) (fun hs44 => ?_)
       ·skip
        refine wl_g ?_
        refine wl_m ?_
        refine wl_g ?_
        refine wl_m ?_
        refine wl_g ?_
        refine wl_val rfl (ex_len_str rfl Try.underlying9 rfl) ?_
        refine wl_g ?_
        refine wl_val rfl (ex_ssubTo (h := h2.size) rfl rfl Try.underlying9 rfl (by omega)) ?_
        refine wl_g ?_
        refine wl_m ?_
        refine wl_g ?_
        refine wl_val rfl (ex_eqs rfl rfl) ?_
        refine wl_pt ?_
        refine wl_a ?_
        refine wl_nil (nrm_then ?_)
        refine cw_ret (body_ret1 rfl rfl ?_)
        exact ⟨congrArg Value.bool (decide_eq_true hfin.2), hE57⟩
       ·skip
        refine wl_n ?_
        refine wl_n ?_
        refine wl_n ?_
        refine wl_n ?_
        refine wl_n ?_
        refine wl_n ?_
        refine wl_pf ?_
        refine wl_a ?_
        refine wl_nil (nrm_then ?_)
        refine cw_ret (body_ret1 rfl rfl ?_)
        exfalso; have := hfin.1; omega

end Go.Proofs.Ytgboffefbpligaa
