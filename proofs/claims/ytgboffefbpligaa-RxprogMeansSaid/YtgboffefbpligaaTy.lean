/- The walk of the law RxprogMeans. -/
import Derived.Test.YtgboffefbpligaaTx
namespace Go.Proofs.Ytgboffefbpligaa
open Go.Proofs
open Go.W Go.RowKit
attribute [local irreducible] Decidable.decide
set_option linter.unusedSimpArgs false
set_option linter.unusedVariables false
theorem Try.goes11 : Goes Try.prog 11 := ⟨_, Try.func11, by kernel_rfl, by kernel_rfl⟩
theorem Try.goes12 : Goes Try.prog 12 := ⟨_, Try.func12, by kernel_rfl, by kernel_rfl⟩
theorem Try.goes6 : Goes Try.prog 6 := ⟨_, Try.func6, by kernel_rfl, by kernel_rfl⟩
theorem Try.goes7 : Goes Try.prog 7 := ⟨_, Try.func7, by kernel_rfl, by kernel_rfl⟩
theorem Try.goes8 : Goes Try.prog 8 := ⟨_, Try.func8, by kernel_rfl, by kernel_rfl⟩
theorem Try.goes9 : Goes Try.prog 9 := ⟨_, Try.func9, by kernel_rfl, by kernel_rfl⟩


theorem SizeIs.rng {t : Rx} {r : Int} (h : SizeIs t r) (hk : t.Ok) : 0 ≤ r ∧ r ≤ 10001 := by have := h.1 hk; omega
theorem utf_one (c : UInt8) (h : c.toNat < 128) : Utf (ByteArray.mk #[c]) 1 ∧ runesK (ByteArray.mk #[c]) 1 = [(c.toNat : Int)] := by
  have hz : (ByteArray.mk #[c]).size = 1 := rfl
  have hs : sb (ByteArray.mk #[c]) 0 = c.toNat := sb_get _ 0 (by rw [hz]; decide)
  have hh : Hit (ByteArray.mk #[c]) 0 1 := (hit1 _ 0).2 (by rw [hs]; exact h)
  have hn := (next_hit (s := ByteArray.mk #[c]) (a := 0) (w := 1) (by decide) (by decide) (by rw [hz]; decide) hh).1
  have hg : guessB (ByteArray.mk #[c]) 0 1 = (c.toNat : Int) := by simp [guessB, hs]
  rw [hg] at hn
  refine ⟨⟨by show 0 + (nextR _ 0).2 = _; rw [hn, hz]; simp, fun k hk => ?_⟩, by show [(nextR _ 0).1] = _; rw [hn]⟩
  obtain rfl : k = 0 := by omega
  show 0 < (nextR _ 0).2
  rw [hn]; simp
theorem TakenIs.of {l : List In} {s : ByteArray} {r : Int} {N : Nat} (h : TakenIs l s r) (hU : Utf s N) : (r = 1 ∧ ∃ p c, WB l s p N ∧ l[p]? = some c ∧ c.op = 1) ∨ (r = 0 ∧ ¬ ∃ p c, WB l s p N ∧ l[p]? = some c ∧ c.op = 1) := by
  rcases h with ⟨-, h⟩ | ⟨M, h1, h2⟩
  · exact (h ⟨N, hU⟩).elim
  · obtain rfl := utf_uniq h1.2 (.inl h1.1) hU
    exact h2
theorem lit_mt (r c : Int) : Mt [c] (litX r) 0 1 ↔ c = r := by
  rw [mt_k2 (show (litX r).kind = 2 from rfl)]
  show 1 = 0 + 1 ∧ some c = some r ↔ _
  simp
theorem taken_a {l : List In} {n : Nat} {r : Int} (hP : ProgOk (litX 97) l n) (h : TakenIs l (ByteArray.mk #[97]) r) : r = 1 := by
  obtain ⟨hU, hr⟩ := utf_one 97 (by decide)
  rcases h.of hU with ⟨h1, -⟩ | ⟨-, h1⟩
  · exact h1
  · exact (h1 ((taken_iff hP hU).2 (by rw [hr]; exact (lit_mt 97 _).2 rfl))).elim
theorem taken_b {l : List In} {n : Nat} {r : Int} (hP : ProgOk (litX 97) l n) (h : TakenIs l (ByteArray.mk #[98]) r) : r = 0 := by
  obtain ⟨hU, hr⟩ := utf_one 98 (by decide)
  rcases h.of hU with ⟨-, h1⟩ | ⟨h1, -⟩
  · have := (taken_iff hP hU).1 h1
    rw [hr] at this
    exact absurd ((lit_mt 97 _).1 this) (by decide)
  · exact h1
theorem lit_comp {w : World} {X : List Nat} {ps : List Value} {e : Int} (h : CompIs X (litX 97) w ps e) : e = 0 ∧ ∃ l n, RProg X w ps l ∧ ProgOk (litX 97) l n := by
  have hok := litX_ok (r := 97) (by decide) (by decide)
  have hz : (litX 97).esz = 1 := by rw [Rx.esz_eq]; rfl
  rcases h with ⟨h, -⟩ | ⟨-, h, -⟩ | ⟨-, -, h, l, n, h1, h2⟩
  · exact (h hok).elim
  · rw [hz] at h; exact absurd h (by decide)
  · exact ⟨h, l, n, h1, h2⟩
theorem ok_comp {X : List Nat} {t : Rx} {w : World} {ps : List Value} {e : Int} (h : CompIs X t w ps e) (hok : t.Ok) (hz : t.esz + 1 ≤ 10000) : e = 0 ∧ ∃ l n, RProg X w ps l ∧ ProgOk t l n := by
  rcases h with ⟨h, -⟩ | ⟨-, h, -⟩ | ⟨-, -, h, l, n, h1, h2⟩
  · exact (h hok).elim
  · exact absurd hz (by omega)
  · exact ⟨h, l, n, h1, h2⟩
theorem RProg.sub0 {X : List Nat} {w : World} {ps : List Value} {l : List In} (h : RProg X w ps l) : RProg [] w ps l := RProg.fresh X [] w ps l (fun y hy => by cases hy) h
theorem RProg.shape {X : List Nat} {w : World} {ps : List Value} {l : List In} (h : RProg X w ps l) : ∃ a c g nm, ps = [.slice a l.length c, iv 0, g, nm] ∧ g.oneCell' = true ∧ nm.oneCell' = true := by
  obtain ⟨vi, g, nm, rfl, ⟨a, c, rfl, -⟩, -, h1, h2⟩ := h
  exact ⟨a, c, g, nm, rfl, h1, h2⟩
theorem ProgOk.pos {x : Rx} {l : List In} {n : Nat} (h : ProgOk x l n) : 0 < l.length := by rw [h.len]; omega
theorem means_fin {t : Rx} {l : List In} {n : Nat} {s : ByteArray} {r : Int} {b : Bool} (hT : TakenIs l s r) (h2 : ¬ r = 2) (hP : ProgOk t l n) (hb : b = true ↔ ∃ N, Utf s N ∧ Mt (runesK s N) t 0 N) : (decide (r = 1) == b) = true := by
  rcases hT with ⟨h, -⟩ | ⟨N, hU, h⟩
  · exact (h2 h).elim
  · have hbn : b = true ↔ Mt (runesK s N) t 0 N := hb.trans ⟨fun ⟨M, hM, hm⟩ => by obtain rfl := utf_uniq hM.2 (.inl hM.1) hU; exact hm, fun h => ⟨N, hU, h⟩⟩
    rw [← taken_iff hP hU] at hbn
    rcases h with ⟨rfl, h⟩ | ⟨rfl, h⟩
    · rw [hbn.2 h, decide_eq_true rfl]; simp
    · have : b = false := by cases b; rfl; exact (h (hbn.1 rfl)).elim
      rw [this, decide_eq_false (by decide)]; simp
theorem taken_rng {l : List In} {s : ByteArray} {r : Int} (hT : TakenIs l s r) : 0 ≤ r := by
  rcases hT with ⟨h, -⟩ | ⟨N, -, ⟨h, -⟩ | ⟨h, -⟩⟩ <;> omega

set_option maxHeartbeats 4000000 in
theorem law_ok {n : Nat} {w : World} {vs : List Value} {t : Rx} {s : ByteArray} (hx : RRx n [] w vs t) :
    Calls Try.prog 3 #[.agg vs.toArray, .string s] w (Ret fun v w' => v = .bool true ∧ Evo [] w w') := by
  have hx0 := hx
  obtain ⟨m, xa, xc, ka, kc, hm, rfl, hrg, hk, bl1, bl2, bl3⟩ := hx.get
  refine calls_of_cw (N := 77) Try.func3 rfl rfl rfl ?_
  refine cw_seq ?_
  refine cw_region ?_
  refine wl_boxA rfl rfl fun b2 w1 hB2 hs3 hw4 => ?_
  have hsz_b2 := hs3
  have hG5 := Ge.new (Evo.refl [] w) hs3
  have hE6 := (Evo.refl [] w).then hw4
  refine wl_a ?_
  refine wl_nil (nrm_then ?_)
  refine cw_seq ?_
  refine cw_region ?_
  refine wl_call1 (vs := [_]) Try.goes7 rfl (lit_ok 97) rfl ?_
  rintro _ w7 ⟨rfl, hw8⟩
  have hE9 := hE6.then hw8
  have hB10 := hw8.blk0 hB2
  refine wl_call1 (vs := [_]) Try.goes6 rfl (compile_ok (X := []) (fun b hb => by cases hb) (litX_rx 97 _ _)) rfl ?_
  rintro _ w11 ⟨hw12, ps1, e1, rfl, hc1⟩
  have hE13 := hE9.then hw12
  have hB14 := hw12.blk0 hB10
  obtain ⟨he1, l1, n1, hp1, hP1⟩ := lit_comp hc1
  obtain ⟨pa1, pc1, pg1, pn1, rfl, hpg1, hpn1⟩ := hp1.shape
  subst he1
  refine wl_m ?_
  refine wl_val rfl (ex_extract rfl rfl) ?_
  refine wl_val rfl (ex_extract rfl rfl) ?_
  refine wl_alloc rfl Try.zero29 fun b5 w15 hB16 hs17 hw18 => ?_
  have hsz_b5 := hs17
  have hA19 := Apart.new (Lt.blk hB14) hs17
  have hG20 := Ge.new hE13 hs17
  have hG21 := Ge.new (Evo.refl [] w11) hs17
  have hE22 := hE13.then hw18
  have hE23 := (Evo.refl [] w11).then hw18
  have hB24 := hw18.blk0 hB14
  refine wl_storeBlk rfl rfl Try.size29 hB16 rfl rfl ⟨by first | rfl | assumption, by first | rfl | assumption, by first | rfl | assumption, by first | rfl | assumption, trivial⟩ fun w25 hB26 hw27 => ?_
  have hE28 := hE22.step hw27 hG20.mem1
  have hE29 := hE23.step hw27 hG21.mem1
  have hB30 := hw27.blk hB24 hA19.nmem1
  try simp only [List.setIfInBounds_toArray, List.set_cons_zero, List.set_cons_succ, Nat.reduceAdd, Nat.zero_add, Nat.add_zero] at hB26
  refine wl_a ?_
  refine wl_nil (nrm_then ?_)
  refine cw_seq ?_
  refine cw_seq ?_
  refine cw_region ?_
  refine wl_m ?_
  refine wl_val rfl (ex_neq rfl rfl) ?_
  refine wl_m ?_
  refine wl_split (t := 15) rfl (fun hs15 => ?_) (fun hs15 => ?_)
  ·skip
   exact (hs15 rfl).elim
  ·skip
   refine wl_g ?_
   refine wl_val rfl (ex_loadBlk rfl Try.agg29 Try.size29 hB26 rfl) ?_
   refine wl_g ?_
   refine wl_call1 (vs := [_, _]) Try.goes8 rfl (taken_ok (RProg.sub0 (RProg.pers _ _ _ _ _ hE29 hp1)) hP1.rng hP1.pos (by decide)) rfl ?_
   rintro _ w31 ⟨hw32, r1, rfl, hT1⟩
   have hE33 := hE28.then hw32
   have hE34 := hE29.then hw32
   have hB35 := hw32.blk0 hB30
   have hB36 := hw32.blk0 hB26
   refine wl_g ?_
   refine wl_val rfl (ex_neq rfl rfl) ?_
   refine wl_pf ?_
   refine wl_m ?_
   refine wl_split (t := 20) rfl (fun hs20 => ?_) (fun hs20 => ?_)
   ·skip
    exact (hs20 (taken_a hP1 hT1)).elim
   ·skip
    refine wl_g ?_
    refine wl_val rfl (ex_loadBlk rfl Try.agg29 Try.size29 hB36 rfl) ?_
    refine wl_g ?_
    refine wl_call1 (vs := [_, _]) Try.goes8 rfl (taken_ok (RProg.sub0 (RProg.pers _ _ _ _ _ hE34 hp1)) hP1.rng hP1.pos (by decide)) rfl ?_
    rintro _ w37 ⟨hw38, r2, rfl, hT2⟩
    have hE39 := hE33.then hw38
    have hE40 := hE34.then hw38
    have hB41 := hw38.blk0 hB35
    have hB42 := hw38.blk0 hB36
    refine wl_g ?_
    refine wl_val rfl (ex_neq rfl rfl) ?_
    refine wl_pf ?_
    refine wl_nil (nrm_then ?_)
    refine cw_if rfl (fun hc24 => ?_) (fun hc24 => ?_)
    ·skip
     exact (hc24 (taken_b hP1 hT2)).elim
    ·skip
     refine cw_skip (nrm_then ?_)
     refine cw_seq ?_
     refine cw_seq ?_
     refine cw_region ?_
     refine wl_val rfl (ex_loadBlk rfl Try.agg25 Try.size25 hB41 rfl) ?_
     refine wl_call1 (vs := [_]) Try.goes9 rfl (wide_ok (RRx.pers _ _ _ _ _ _ hE39 hx0)) rfl ?_
     rintro _ w43 ⟨wb, rfl, hw44⟩
     have hE45 := hE39.then hw44
     have hE46 := hE40.then hw44
     have hB47 := hw44.blk0 hB41
     have hB48 := hw44.blk0 hB42
     refine wl_nil (nrm_then ?_)
     refine cw_ifb rfl (fun hc26 => ?_) (fun hc26 => ?_)
     ·skip
      refine cw_seq ?_
      refine cw_region ?_
      refine wl_a ?_
      refine wl_nil (nrm_then ?_)
      refine cw_ret (ret_then (body_ret1 rfl rfl ?_))
      exact ⟨rfl, hE45⟩
     ·skip
      refine cw_skip (nrm_then ?_)
      refine cw_seq ?_
      refine cw_seq ?_
      refine cw_region ?_
      refine wl_val rfl (ex_loadBlk rfl Try.agg25 Try.size25 hB47 rfl) ?_
      refine wl_call1 (vs := [_]) Try.goes10 rfl (refValid_ok (RRx.pers _ _ _ _ _ _ hE45 hx0)) rfl ?_
      rintro _ w49 ⟨vb, rfl, hvb, hw50⟩
      have hE51 := hE45.then hw50
      have hE52 := hE46.then hw50
      have hB53 := hw50.blk0 hB47
      have hB54 := hw50.blk0 hB48
      refine wl_val rfl (ex_notb rfl) ?_
      refine wl_m ?_
      refine wl_splitb (t := 30) rfl (fun hs30 => ?_) (fun hs30 => ?_)
      ·skip
       refine wl_n ?_
       refine wl_n ?_
       refine wl_n ?_
       refine wl_pt ?_
       refine wl_m ?_
       refine wl_n ?_
       refine wl_n ?_
       refine wl_n ?_
       refine wl_n ?_
       refine wl_n ?_
       refine wl_n ?_
       refine wl_n ?_
       refine wl_n ?_
       refine wl_n ?_
       refine wl_n ?_
       refine wl_n ?_
       refine wl_pt ?_
       refine wl_m ?_
       refine wl_n ?_
       refine wl_n ?_
       refine wl_n ?_
       refine wl_pt ?_
       refine wl_nil (nrm_then ?_)
       refine cw_true rfl ?_
       refine cw_seq ?_
       refine cw_region ?_
       refine wl_a ?_
       refine wl_nil (nrm_then ?_)
       refine cw_ret (ret_then (body_ret1 rfl rfl ?_))
       exact ⟨rfl, hE51⟩
      ·skip
       have hok : t.Ok := hvb.1 (by simpa using hs30)
       refine wl_g ?_
       refine wl_m ?_
       refine wl_g ?_
       refine wl_val rfl (ex_len_str rfl Try.underlying9 rfl) ?_
       refine wl_g ?_
       refine wl_val rfl (ex_gtr rfl rfl) ?_
       refine wl_pf ?_
       refine wl_m ?_
       refine wl_split (t := 35) rfl (fun hs35 => ?_) (fun hs35 => ?_)
       ·skip
        refine wl_n ?_
        refine wl_n ?_
        refine wl_n ?_
        refine wl_n ?_
        refine wl_n ?_
        refine wl_n ?_
        refine wl_n ?_
        refine wl_n ?_
        refine wl_n ?_
        refine wl_n ?_
        refine wl_n ?_
        refine wl_pt ?_
        refine wl_m ?_
        refine wl_n ?_
        refine wl_n ?_
        refine wl_n ?_
        refine wl_pt ?_
        refine wl_nil (nrm_then ?_)
        refine cw_true rfl ?_
        refine cw_seq ?_
        refine cw_region ?_
        refine wl_a ?_
        refine wl_nil (nrm_then ?_)
        refine cw_ret (ret_then (body_ret1 rfl rfl ?_))
        exact ⟨rfl, hE51⟩
       ·skip
        refine wl_g ?_
        refine wl_val rfl (ex_loadBlk rfl Try.agg25 Try.size25 hB53 rfl) ?_
        refine wl_g ?_
        refine wl_call1 (vs := [_]) Try.goes11 rfl (rSize_ok (RRx.pers _ _ _ _ _ _ hE51 hx0)) rfl ?_
        rintro _ w55 ⟨sz, rfl, hsz, hw56⟩
        have hE57 := hE51.then hw56
        have hE58 := hE52.then hw56
        have hB59 := hw56.blk0 hB53
        have hB60 := hw56.blk0 hB54
        refine wl_g ?_
        refine wl_m ?_
        refine wl_g ?_
        refine wl_val rfl (ex_len_str rfl Try.underlying9 rfl) ?_
        refine wl_g ?_
        refine wl_val rfl (ex_add_i64 rfl rfl (by omega) (by omega)) ?_
        have hmu := mul_bd (m := sz) (k := (s.size : Int) + 1) (a := 10001) (b := 129) (hsz.rng hok).1 (hsz.rng hok).2 (by omega) (by omega)
        refine wl_g ?_
        refine wl_val rfl (ex_mul_i64 rfl rfl (by omega) (by omega)) ?_
        refine wl_g ?_
        refine wl_m ?_
        refine wl_g ?_
        refine wl_val rfl (ex_len_str rfl Try.underlying9 rfl) ?_
        refine wl_g ?_
        refine wl_val rfl (ex_add_i64 rfl rfl (by omega) (by omega)) ?_
        have hmv := mul_bd (m := sz * ((s.size : Int) + 1)) (k := (s.size : Int) + 1) (a := 1290129) (b := 129) (by omega) (by omega) (by omega) (by omega)
        refine wl_g ?_
        refine wl_val rfl (ex_mul_i64 rfl rfl (by omega) (by omega)) ?_
        refine wl_g ?_
        refine wl_val rfl (ex_gtr rfl rfl) ?_
        refine wl_pf ?_
        refine wl_m ?_
        refine wl_split (t := 48) rfl (fun hs48 => ?_) (fun hs48 => ?_)
        ·skip
         refine wl_n ?_
         refine wl_n ?_
         refine wl_n ?_
         refine wl_pt ?_
         refine wl_nil (nrm_then ?_)
         refine cw_true rfl ?_
         refine cw_seq ?_
         refine cw_region ?_
         refine wl_a ?_
         refine wl_nil (nrm_then ?_)
         refine cw_ret (ret_then (body_ret1 rfl rfl ?_))
         exact ⟨rfl, hE57⟩
        ·skip
         refine wl_g ?_
         refine wl_val rfl (ex_loadBlk rfl Try.agg25 Try.size25 hB59 rfl) ?_
         refine wl_g ?_
         refine wl_call1 (vs := [_]) Try.goes11 rfl (rSize_ok (RRx.pers _ _ _ _ _ _ hE57 hx0)) rfl ?_
         rintro _ w61 ⟨sy, rfl, hsy, hw62⟩
         have hE63 := hE57.then hw62
         have hE64 := hE58.then hw62
         have hB65 := hw62.blk0 hB59
         have hB66 := hw62.blk0 hB60
         refine wl_g ?_
         refine wl_val rfl (ex_gtr rfl rfl) ?_
         refine wl_pf ?_
         refine wl_nil (nrm_then ?_)
         refine cw_if rfl (fun hc52 => ?_) (fun hc52 => ?_)
         ·skip
          refine cw_seq ?_
          refine cw_region ?_
          refine wl_a ?_
          refine wl_nil (nrm_then ?_)
          refine cw_ret (ret_then (body_ret1 rfl rfl ?_))
          exact ⟨rfl, hE63⟩
         ·skip
          have hz2 := hsy.fits hok hc52
          refine cw_skip (nrm_then ?_)
          refine cw_seq ?_
          refine cw_region ?_
          refine wl_val rfl (ex_loadBlk rfl Try.agg25 Try.size25 hB65 rfl) ?_
          refine wl_call1 (vs := [_]) Try.goes6 rfl (compile_ok (X := [b5]) (fun b hb => by rw [List.mem_singleton.1 hb]; exact blk_lt hB66) (RRx.pers _ _ _ _ _ _ hE63 hx0)) rfl ?_
          rintro _ w67 ⟨hw68, ps2, e2, rfl, hc2⟩
          have hE69 := hE63.then hw68
          have hE70 := hE64.then hw68
          have hB71 := hw68.blk0 hB65
          have hB72 := hw68.blk0 hB66
          obtain ⟨he2, l2, n2, hp2, hP2⟩ := ok_comp hc2 hok hz2
          obtain ⟨pa2, pc2, pg2, pn2, rfl, hpg2, hpn2⟩ := hp2.shape
          subst he2
          refine wl_m ?_
          refine wl_val rfl (ex_extract rfl rfl) ?_
          refine wl_val rfl (ex_extract rfl rfl) ?_
          refine wl_storeBlk rfl rfl Try.size29 hB72 rfl rfl ⟨by first | rfl | assumption, by first | rfl | assumption, by first | rfl | assumption, by first | rfl | assumption, trivial⟩ fun w73 hB74 hw75 => ?_
          have hE76 := hE69.step hw75 hG20.mem1
          have hE77 := hE70.step hw75 hG21.mem1
          have hE78 := (Evo.refl [b5] w67).step hw75 (fun y hy => .inl hy)
          have hB79 := hw75.blk hB71 hA19.nmem1
          try simp only [List.setIfInBounds_toArray, List.set_cons_zero, List.set_cons_succ, Nat.reduceAdd, Nat.zero_add, Nat.add_zero] at hB74
          refine wl_a ?_
          refine wl_nil (nrm_then ?_)
          refine cw_seq ?_
          refine cw_seq ?_
          refine cw_region ?_
          refine wl_m ?_
          refine wl_val rfl (ex_neq rfl rfl) ?_
          refine wl_nil (nrm_then ?_)
          refine cw_if rfl (fun hc59 => ?_) (fun hc59 => ?_)
          ·skip
           exact (hc59 rfl).elim
          ·skip
           refine cw_skip (nrm_then ?_)
           refine cw_seq ?_
           refine cw_region ?_
           refine wl_val rfl (ex_loadBlk rfl Try.agg29 Try.size29 hB74 rfl) ?_
           refine wl_m ?_
           refine wl_call1 (vs := [_, _]) Try.goes8 rfl (taken_ok (RProg.sub0 (RProg.pers _ _ _ _ _ hE78 hp2)) hP2.rng hP2.pos (by omega)) rfl ?_
           rintro _ w80 ⟨hw81, r3, rfl, hT3⟩
           have hE82 := hE76.then hw81
           have hE83 := hE77.then hw81
           have hE84 := hE78.then hw81
           have hB85 := hw81.blk0 hB79
           have hB86 := hw81.blk0 hB74
           refine wl_a ?_
           refine wl_nil (nrm_then ?_)
           refine cw_seq ?_
           refine cw_region ?_
           refine wl_m ?_
           refine wl_val rfl (ex_eql rfl rfl) ?_
           refine wl_m ?_
           refine wl_split (t := 65) rfl (fun hs65 => ?_) (fun hs65 => ?_)
           ·skip
            refine wl_n ?_
            refine wl_n ?_
            refine wl_n ?_
            refine wl_u ?_
            refine wl_u ?_
            refine wl_u ?_
            refine wl_u ?_
            refine wl_u ?_
            refine wl_u ?_
            refine wl_n ?_
            refine wl_pt ?_
            refine wl_a ?_
            refine wl_nil (nrm_then ?_)
            refine cw_ret (body_ret1 rfl rfl ?_)
            exact ⟨rfl, hE82⟩
           ·skip
            refine wl_g ?_
            refine wl_m ?_
            refine wl_g ?_
            refine wl_val rfl (ex_geq rfl rfl) ?_
            refine wl_g ?_
            refine wl_m ?_
            refine wl_split (t := 68) rfl (fun hs68 => ?_) (fun hs68 => ?_)
            ·skip
             refine wl_g ?_
             refine wl_m ?_
             refine wl_g ?_
             refine wl_val rfl (ex_eql rfl rfl) ?_
             refine wl_g ?_
             refine wl_val rfl (ex_loadBlk rfl Try.agg25 Try.size25 hB85 rfl) ?_
             refine wl_g ?_
             refine wl_m ?_
             refine wl_g ?_
             refine wl_call1 (vs := [_, _]) Try.goes12 rfl (matches_ok (RRx.pers _ _ _ _ _ _ hE82 hx0) hok (by omega)) rfl ?_
             rintro _ w87 ⟨hw88, mb, rfl, hmb⟩
             have hE89 := hE82.then hw88
             have hE90 := hE83.then hw88
             have hE91 := hE84.then hw88
             have hB92 := hw88.blk0 hB85
             have hB93 := hw88.blk0 hB86
             refine wl_g ?_
             refine wl_val rfl (ex_eqB rfl rfl Try.underlying4) ?_
             refine wl_g ?_
             refine wl_pt ?_
             refine wl_pf ?_
             refine wl_a ?_
             refine wl_nil (nrm_then ?_)
             refine cw_ret (body_ret1 rfl rfl ?_)
             exact ⟨congrArg Value.bool (means_fin hT3 hs65 hP2 hmb), hE89⟩
            ·skip
             exact (hs68 (taken_rng hT3)).elim

end Go.Proofs.Ytgboffefbpligaa
