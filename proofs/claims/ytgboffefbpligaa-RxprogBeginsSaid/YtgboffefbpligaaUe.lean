/- headOf, Prefix. -/
import Derived.Test.YtgboffefbpligaaUd
import Derived.Test.YtgboffefbpligaaTh
namespace Go.Proofs.Ytgboffefbpligaa
open Go.Proofs
open Go.W Go.RowKit
attribute [local irreducible] Decidable.decide
set_option linter.unusedSimpArgs false
set_option linter.unusedVariables false
theorem Try.agg68 : aggB Try.prog 68 = some true := by kernel_rfl
theorem Try.build68 : Build Try.prog 68 #[(0, 1), (1, 1)] #[.string ByteArray.empty, .bool false] := ⟨_, .agg #[.string ByteArray.empty, .bool false], Try.underlying68, by kernel_rfl, rfl, fun w => by kernel_rfl⟩
theorem Try.fld68_0 : fieldB Try.prog 68 0 = some 0 := by kernel_rfl
theorem Try.fld68_1 : fieldB Try.prog 68 1 = some 1 := by kernel_rfl
theorem Try.goes26 : Goes Try.prog 26 := ⟨_, Try.func26, by kernel_rfl, by kernel_rfl⟩
theorem Try.goes44 : Goes Try.prog 44 := ⟨_, Try.func44, by kernel_rfl, by kernel_rfl⟩
theorem Try.goes45 : Goes Try.prog 45 := ⟨_, Try.func45, by kernel_rfl, by kernel_rfl⟩
theorem Try.goes46 : Goes Try.prog 46 := ⟨_, Try.func46, by kernel_rfl, by kernel_rfl⟩
theorem Try.goes47 : Goes Try.prog 47 := ⟨_, Try.func47, by kernel_rfl, by kernel_rfl⟩
theorem Try.goes48 : Goes Try.prog 48 := ⟨_, Try.func48, by kernel_rfl, by kernel_rfl⟩
theorem Try.goes71 : Goes Try.prog 71 := ⟨_, Try.func71, by kernel_rfl, by kernel_rfl⟩
theorem Try.size68 : sizeB Try.prog 68 = some 2 := by kernel_rfl
theorem Try.zero68 : zeroB Try.prog 68 = some #[.string ByteArray.empty, .bool false] := by kernel_rfl
theorem Try.zero95 : zeroB Try.prog 95 = some #[.pointer none, .slice none 0 0] := by kernel_rfl


/-- What headOf answers at a tree. -/
def Known (t : Rx) (h : ByteArray) (ex : Bool) : Prop := (t.kind = 2 → h = bstr (formB t.r) ∧ ex = decide (IsR t.r)) ∧
  (t.kind = 6 → t.max ≠ 0 → ∀ k, t.kids = [k] → k.kind = 2 → h = (repHead t.min t.max (bstr (formB k.r)) (decide (IsR k.r))).1)
def HOf (s : ByteArray) (N : Nat) (t : Rx) (h : ByteArray) (ex : Bool) : Prop := Hd s N (Mt (runesK s N) t) h ex ∧ h.size ≤ 4 * t.esz ∧ Known t h ex
theorem known_no {t : Rx} {h : ByteArray} {ex : Bool} (h1 : t.kind ≠ 2) (h2 : t.kind ≠ 6) : Known t h ex := ⟨fun e => (h1 e).elim, fun e => (h2 e).elim⟩
theorem mtfwd (s : ByteArray) (N : Nat) (t : Rx) : Fwd N (Mt (runesK s N) t) := by
  have h := mt_fwd (runesK s N) t
  rwa [runesK_len] at h
theorem mtsfwd (s : ByteArray) (N : Nat) (l : List Rx) : Fwd N (Mts (runesK s N) l) := by
  have h := mts_fwd (runesK s N) l
  rwa [runesK_len] at h
theorem mtafwd (s : ByteArray) (N : Nat) (l : List Rx) : Fwd N (MtA (runesK s N) l) := by
  have h := mta_fwd (runesK s N) l
  rwa [runesK_len] at h
theorem rep_le {t : Rx} (hk : t.kind = 6) (h6 : 0 ≤ t.min) (h63 : t.max = -1 ∨ t.min ≤ t.max) {h : Nat} (hh : h ≤ 4 * eszs t.kids) : t.min.toNat * h ≤ 4 * t.esz ∧ (t.min ≠ 0 → h ≤ 4 * t.esz) := by
  have e : (t.min.toNat : Int) = t.min := by omega
  have h1 : (t.min * (eszs t.kids : Int)) ≤ (t.esz : Int) := by
    rcases h63 with h2 | h2
    · rw [esz6a hk h6 h2]; omega
    · rw [esz6b hk h6 h2]
      have := Int.mul_nonneg (show (0 : Int) ≤ t.max - t.min by omega) (show (0 : Int) ≤ (eszs t.kids : Int) + 1 by omega)
      omega
  have h2 : t.min.toNat * h ≤ t.min.toNat * (4 * eszs t.kids) := Nat.mul_le_mul_left _ hh
  have h3 : t.min.toNat * (4 * eszs t.kids) = 4 * (t.min.toNat * eszs t.kids) := by rw [Nat.mul_left_comm]
  have h4 : ((t.min.toNat * eszs t.kids : Nat) : Int) = t.min * (eszs t.kids : Int) := by push_cast; rw [e]
  refine ⟨by omega, fun h5 => ?_⟩
  have h6 : eszs t.kids ≤ t.min.toNat * eszs t.kids := Nat.le_mul_of_pos_left _ (by omega)
  omega
theorem hd_mt_rep {s : ByteArray} {N : Nat} {t : Rx} (hk : t.kind = 6) {i j : Nat} : Mt (runesK s N) t i j ↔ ∃ c, t.min.toNat ≤ c ∧ (t.max = -1 ∨ c ≤ t.max.toNat) ∧ It (Mts (runesK s N) t.kids) c i j := by
  rw [mt_eq]
  constructor
  · rintro (⟨h, _⟩ | ⟨h, _⟩ | ⟨h, _⟩ | ⟨h, _⟩ | ⟨h, _⟩ | ⟨_, h⟩ | ⟨h, _⟩ | ⟨h, _⟩) <;> first | exact h | omega
  · exact fun h => .inr (.inr (.inr (.inr (.inr (.inl ⟨hk, h⟩)))))
theorem rep_of {s : ByteArray} {N : Nat} {t : Rx} (hk : t.kind = 6) (h6 : 0 ≤ t.min) (h63 : t.max = -1 ∨ t.min ≤ t.max) (hl : t.kids.length = 1) {h : ByteArray} {ex : Bool} (hh : HOf s N (t.kids[0]'(by omega)) h ex) :
    HOf s N t (repHead t.min t.max h ex).1 (repHead t.min t.max h ex).2 := by
  have he := eszs_one hl
  have hs : Mts (runesK s N) t.kids = Mt (runesK s N) (t.kids[0]'(by omega)) := by
    funext i j
    exact (congrArg (fun l => Mts (runesK s N) l i j) (single_of hl)).trans (propext mts_one)
  have h2 : h.size ≤ 4 * eszs t.kids := by have := hh.2.1; omega
  have hb := rep_le hk h6 h63 h2
  refine ⟨(Hd.rep (mtsfwd s N t.kids) (by rw [hs]; exact hh.1) h6 h63).congr fun i j _ h => (hd_mt_rep hk).1 h, ?_, fun e => by omega, fun _ _ k e1 e2 => ?_⟩
  rotate_left
  · have e3 : t.kids[0]'(by omega) = k := by simp [e1]
    obtain ⟨e4, e5⟩ := hh.2.2.1 (by rw [e3]; exact e2)
    rw [e4, e5, e3]
  unfold repHead
  split
  · exact Nat.zero_le _
  split
  · exact Nat.zero_le _
  split
  · exact hb.2 (by assumption)
  · rw [brep_size]; exact hb.1
theorem rep_zero {s : ByteArray} {N : Nat} {t : Rx} (hk : t.kind = 6) (h0 : t.max = 0) : HOf s N t nob true := by
  refine ⟨Hd.eps fun i j hm => ?_, Nat.zero_le _, fun e => by omega, fun _ e => (e h0).elim⟩
  obtain ⟨c, h1, h2, h3⟩ := (hd_mt_rep hk).1 hm
  obtain rfl : c = 0 := by omega
  exact h3
theorem rep_kid {t : Rx} (hk : t.kind = 6) (h6 : 0 ≤ t.min) (h63 : t.max = -1 ∨ t.min ≤ t.max) (h0 : t.max ≠ 0) : eszs t.kids ≤ t.esz := by
  rcases h63 with h2 | h2
  · have e := esz6a hk h6 h2
    have := Int.mul_nonneg h6 (Int.natCast_nonneg (eszs t.kids))
    omega
  · have e := esz6b hk h6 h2
    have h3 := Int.mul_nonneg h6 (Int.natCast_nonneg (eszs t.kids))
    have h4 := Int.mul_nonneg (show (0 : Int) ≤ t.max - t.min by omega) (show (0 : Int) ≤ (eszs t.kids : Int) + 1 by omega)
    by_cases h5 : t.min = 0
    · have h7 : (1 : Int) * ((eszs t.kids : Int) + 1) ≤ (t.max - t.min) * ((eszs t.kids : Int) + 1) := Int.mul_le_mul_of_nonneg_right (by omega) (by omega)
      omega
    · have h7 : (1 : Int) * (eszs t.kids : Int) ≤ t.min * (eszs t.kids : Int) := Int.mul_le_mul_of_nonneg_right (by omega) (by omega)
      omega
theorem repI_ok {w : World} (s : ByteArray) (m : Int) (h0 : 0 ≤ m) (h1 : m ≤ 1000) (hs : s.size ≤ 100000) :
    Calls Try.prog 71 #[.string s, .int .i64 m] w (Ret fun v w' => v = .string (brep s m.toNat) ∧ Evo [] w w') := by
  have e : ((m.toNat : Nat) : Int) = m := by omega
  have h2 : s.size * m.toNat ≤ 100000 * 1000 := Nat.mul_le_mul hs (by omega)
  have h := repeat_ok (w := w) s m.toNat (by omega) (by omega)
  rwa [e] at h
theorem leaf_eps {s : ByteArray} {N : Nat} {t : Rx} (h : t.kind = 1 ∨ 8 ≤ t.kind) : HOf s N t nob true := by
  refine ⟨Hd.eps fun i j hm => ?_, Nat.zero_le _, known_no (by omega) (by omega)⟩
  rw [mt_eq] at hm
  rcases hm with ⟨_, h1⟩ | ⟨h1, _⟩ | ⟨h1, _⟩ | ⟨h1, _⟩ | ⟨h1, _⟩ | ⟨h1, _⟩ | ⟨h1, _⟩ | ⟨_, h1, _⟩ <;> first | exact h1 | omega
theorem size_lt2 {t : Rx} (h : t.esz + 1 ≤ 10000) : t.esz ≤ 9999 := by omega
theorem any_none {s : ByteArray} {N : Nat} {t : Rx} (hk : t.kind = 3) : HOf s N t nob false := ⟨Hd.none (mtfwd s N t), Nat.zero_le _, known_no (by omega) (by omega)⟩
theorem lit_none {s : ByteArray} {N : Nat} {t : Rx} (hk : t.kind = 2) (hr : ¬ IsR t.r) : HOf s N t nob false := ⟨Hd.none (mtfwd s N t), Nat.zero_le _, fun _ => ⟨by rw [formB, if_neg hr]; rfl, by simp [hr]⟩, fun e => by omega⟩
theorem lit_head {s : ByteArray} {N : Nat} {t : Rx} (hU : Utf s N) (hk : t.kind = 2) (hr : IsR t.r) : HOf s N t (bstr (formB t.r)) true := by
  have e1 := esz0 (t := t) (by omega)
  have hz : (bstr (formB t.r)).size = (formB t.r).length := bstr_size _
  refine ⟨fun i j hi hm => ?_, by have := formB_len t.r; omega, fun _ => ⟨rfl, by simp [hr]⟩, fun e => by omega⟩
  rw [mt_eq] at hm
  rcases hm with ⟨h1, _⟩ | ⟨_, rfl, h1⟩ | ⟨h1, _⟩ | ⟨h1, _⟩ | ⟨h1, _⟩ | ⟨h1, _⟩ | ⟨h1, _⟩ | ⟨h1, _⟩ <;> try omega
  have hlt := get_lt h1
  rw [runesK_len] at hlt
  rw [runesK_get hlt] at h1
  have h2 := next_ext (hU.2 i hlt)
  have h3 : (nextR s (offs s i)).1 = t.r := Option.some.inj h1
  rw [h3] at h2
  rw [hz, h2.2.1]
  exact ⟨Nat.le_refl _, h2.1, fun _ => rfl⟩
theorem grp_head {s : ByteArray} {N : Nat} {t : Rx} (hk : t.kind = 7) (hl : t.kids.length = 1) {h : ByteArray} {ex : Bool} (hh : HOf s N (t.kids[0]'(by omega)) h ex) : HOf s N t h ex := by
  have he := eszs_one hl
  have e7 := esz7 hk
  refine ⟨hh.1.congr fun i j _ hm => ?_, by have := hh.2.1; omega, known_no (by omega) (by omega)⟩
  rw [mt_eq] at hm
  rcases hm with ⟨h1, _⟩ | ⟨h1, _⟩ | ⟨h1, _⟩ | ⟨h1, _⟩ | ⟨h1, _⟩ | ⟨h1, _⟩ | ⟨_, h1⟩ | ⟨h1, _⟩ <;> try omega
  exact mts_one.1 ((congrArg (fun l => Mts (runesK s N) l i j) (single_of hl)).mp h1)
theorem formB_no {n : Int} (h : ¬ IsR n) : bstr (formB n) = nob := by rw [formB, if_neg h]; rfl
theorem lit_text {w : World} {a : Option Addr} {c : Nat} {r : Int} {ob : Option Nat} (hO : OwnS w 21 1 a 1 c [.int .i32 r] ob) :
    Calls Try.prog 44 #[.slice a 1 c] w (Ret fun v w' => v = .tuple #[.string (bstr (formB r)), iv (if IsR r then 0 else 12)] ∧ Evo [] w w') := by
  refine (utext_ok (rs := [r]) hO (by simp)).mono ?_
  rintro e w' ⟨v, rfl, h, he⟩
  refine ⟨_, rfl, ?_, he⟩
  rcases h with ⟨rfl, h⟩ | ⟨rfl, h⟩
  · rw [if_pos (h r (List.mem_singleton_self r))]; simp [frm]
  · have hn : ¬ IsR r := fun h1 => h (fun x hx => by rw [List.mem_singleton.1 hx]; exact h1)
    rw [if_neg hn, formB_no hn]

set_option maxHeartbeats 4000000 in
theorem hrep_step {s : ByteArray} {N n : Nat} (hU : Utf s N) (ih : ∀ {X : List Nat} {w : World} {vs : List Value} {t : Rx} (hx : RRx n X w vs t) (hg : Good t) (hl : t.esz ≤ 9999), Calls Try.prog 26 #[.agg vs.toArray] w (Ret fun v w' => ∃ h ex, v = .agg #[.string h, .bool ex] ∧ HOf s N t h ex ∧ Evo [] w w')) {X : List Nat} {w : World} {vs : List Value} {t : Rx} (hx : RRx (n + 1) X w vs t) (hg : Good t) (hl : t.esz ≤ 9999) (h6 : t.kind = 6) : Calls Try.prog 48 #[.agg vs.toArray] w (Ret fun v w' => ∃ h ex, v = .agg #[.string h, .bool ex] ∧ HOf s N t h ex ∧ Evo [] w w') := by
  have hx0 := hx
  obtain ⟨m, ra, rc, ka, kc, hm, rfl, hrg, hk, bl1, bl2, bl3⟩ := hx.get
  obtain rfl : m = n := by omega
  obtain ⟨_, _, hke, hkc, e1⟩ := hk
  cases hke
  have hn := (nodeP_iff t).1 hg.node
  have g6 := hn.rep1 h6
  have g62 := hn.rep2 h6
  have g63 := hn.rep3 h6
  have g64 := hn.rep4 h6
  refine calls_of_cw (N := 46) Try.func48 rfl rfl rfl ?_
  refine cw_seq ?_
  refine cw_region ?_
  refine wl_boxA rfl rfl fun b1 w2 hB3 hs4 hw5 => ?_
  have hG6 := Ge.new (Evo.refl [] w) hs4
  have hE7 := (Evo.refl [] w).then hw5
  refine wl_alloc rfl Try.zero68 fun b2 w8 hB9 hs10 hw11 => ?_
  have hsz_b2 := hs10
  have hA12 := Apart.new (Lt.blk hB3) hs10
  have hG13 := Ge.new hE7 hs10
  have hE14 := hE7.then hw11
  have hB15 := hw11.blk0 hB3
  refine wl_nil (nrm_then ?_)
  refine cw_seq ?_
  refine cw_seq ?_
  refine cw_region ?_
  refine wl_val rfl (ex_fieldAddr rfl Try.fld25_4) ?_
  refine wl_val rfl (ex_load1 rfl Try.agg3 (cell_nth hB15 rfl)) ?_
  refine wl_val rfl (ex_eql rfl rfl) ?_
  refine wl_nil (nrm_then ?_)
  refine cw_if rfl (fun hc6 => ?_) (fun hc6 => ?_)
  ·skip
   refine cw_seq ?_
   refine cw_region ?_
   refine wl_val rfl (ex_build (vs := [(1, _)]) Try.build68 rfl (cells := [_, _]) rfl) ?_
   refine wl_storeBlk rfl rfl Try.size68 hB9 rfl rfl ⟨by first | rfl | assumption, by first | rfl | assumption, trivial⟩ fun w16 hB17 hw18 => ?_
   have hE19 := hE14.step hw18 hG13.mem1
   have hB20 := hw18.blk hB15 hA12.nmem1
   try simp only [List.setIfInBounds_toArray, List.set_cons_zero, List.set_cons_succ, Nat.reduceAdd, Nat.zero_add, Nat.add_zero] at hB17
   refine wl_nil (nrm_then ?_)
   refine cw_ret (ret_then (body_retC1 rfl (ResOk.cellA rfl Try.agg68 Try.size68 hB17 rfl) ?_))
   exact ⟨nob, true, rfl, rep_zero h6 (by omega), hE19⟩
  ·skip
   refine cw_skip (nrm_then ?_)
   refine cw_seq ?_
   refine cw_region ?_
   have hl1 : t.kids.length = 1 := by have h1 := hn.rep4; have h2 := hn.grp; omega
   have hj' : 0 < t.kids.length := by omega
   obtain ⟨b1, o1, vs1, ha1, hb1, hvl1, hc1, hrk⟩ := e1 0 hj'
   obtain ⟨m1, ra1, rc1, ka1, kc1, rfl, rfl, -⟩ := id hrk.get
   have he1 := eszs_one hl1
   have hkz := rep_kid h6 g6 (by omega) (by omega)
   have hkk : t.kids[0].esz ≤ 9999 := by omega
   refine wl_val rfl (ex_fieldAddr rfl Try.fld25_8) ?_
   refine wl_val rfl (ex_load1 rfl Try.agg23 (cell_nth hB15 rfl)) ?_
   refine wl_val rfl (ex_indexAddrZ (n := 0) (by rw [ha1]; rfl) rfl rfl Try.elem23 (by omega)) ?_
   refine wl_val rfl (ex_loadA rfl Try.agg25 Try.size25 (vs := [_, _, _, _, _, _, _, _, _]) rfl (hc1.evo hE14 (by simp))) ?_
   refine wl_call1 (vs := [_]) Try.goes26 rfl (ih (RRx.pers _ _ _ _ _ _ (hE14.mono (fun b hb => by cases hb)) hrk) (hg.kid _ (List.getElem_mem hj')) (hkk)) rfl ?_
   rintro _ w21 ⟨kh, kx, rfl, hh, hw22⟩
   have hE23 := hE14.then hw22
   have hB24 := hw22.blk0 hB15
   have hB25 := hw22.blk0 hB9
   refine wl_alloc rfl Try.zero68 fun b3 w26 hB27 hs28 hw29 => ?_
   have hsz_b3 := hs28
   have hA30 := Apart.new (Lt.blk hB24) hs28
   have hA31 := Apart.new (Lt.blk hB25) hs28
   have hG32 := Ge.new hE23 hs28
   have hE33 := hE23.then hw29
   have hB34 := hw29.blk0 hB24
   have hB35 := hw29.blk0 hB25
   refine wl_storeBlk rfl rfl Try.size68 hB27 rfl rfl ⟨by first | rfl | assumption, by first | rfl | assumption, trivial⟩ fun w36 hB37 hw38 => ?_
   have hE39 := hE33.step hw38 hG32.mem1
   have hB40 := hw38.blk hB34 hA30.nmem1
   have hB41 := hw38.blk hB35 hA31.nmem1
   try simp only [List.setIfInBounds_toArray, List.set_cons_zero, List.set_cons_succ, Nat.reduceAdd, Nat.zero_add, Nat.add_zero] at hB37
   refine wl_nil (nrm_then ?_)
   refine cw_seq ?_
   refine cw_block ?_
   refine cw_seq ?_
   refine cw_region ?_
   refine wl_val rfl (ex_fieldAddr rfl Try.fld25_3) ?_
   refine wl_val rfl (ex_load1 rfl Try.agg3 (cell_nth hB40 rfl)) ?_
   refine wl_val rfl (ex_eql rfl rfl) ?_
   refine wl_a ?_
   refine wl_nil (nrm_then ?_)
   refine cw_if rfl (fun hc13 => ?_) (fun hc13 => ?_)
   ·skip
    have hsz := hh.2.1
    have hr := rep_of h6 g6 (by omega) hl1 hh
    unfold repHead at hr
    rw [if_neg (by omega)] at hr
    refine cw_seq ?_
    refine cw_region ?_
    refine wl_val rfl (ex_fieldAddr rfl Try.fld68_1) ?_
    refine wl_val rfl (ex_load1 rfl Try.agg4 (cell_nth hB37 rfl)) ?_
    refine wl_m ?_
    refine wl_splitb (t := 19) rfl (fun hs19 => ?_) (fun hs19 => ?_)
    ·skip
     refine wl_g ?_
     refine wl_val rfl (ex_fieldAddr rfl Try.fld68_0) ?_
     refine wl_g ?_
     refine wl_val rfl (ex_load1 rfl Try.agg9 (cell_nth hB37 rfl)) ?_
     refine wl_g ?_
     refine wl_val rfl (ex_eqs rfl rfl) ?_
     refine wl_pt ?_
     refine wl_val rfl (ex_build (vs := [(1, _)]) Try.build68 rfl (cells := [_, _]) rfl) ?_
     refine wl_storeBlk rfl rfl Try.size68 hB41 rfl rfl ⟨by first | rfl | assumption, by first | rfl | assumption, trivial⟩ fun w42 hB43 hw44 => ?_
     have hE45 := hE39.step hw44 hG13.mem1
     have hB46 := hw44.blk hB40 hA12.nmem1
     have hB47 := hw44.blk hB37 hA31.symm.nmem1
     try simp only [List.setIfInBounds_toArray, List.set_cons_zero, List.set_cons_succ, Nat.reduceAdd, Nat.zero_add, Nat.add_zero] at hB43
     refine wl_nil (nrm_then ?_)
     refine cw_ret (ret_block (ret_then (body_retC1 rfl (ResOk.cellA rfl Try.agg68 Try.size68 hB43 rfl) ?_)))
     rw [if_pos (by omega)] at hr
     refine ⟨nob, _, rfl, ?_, hE45⟩
     simpa [hs19] using hr
    ·skip
     refine wl_n ?_
     refine wl_n ?_
     refine wl_n ?_
     refine wl_pf ?_
     refine wl_val rfl (ex_build (vs := [(1, _)]) Try.build68 rfl (cells := [_, _]) rfl) ?_
     refine wl_storeBlk rfl rfl Try.size68 hB41 rfl rfl ⟨by first | rfl | assumption, by first | rfl | assumption, trivial⟩ fun w48 hB49 hw50 => ?_
     have hE51 := hE39.step hw50 hG13.mem1
     have hB52 := hw50.blk hB40 hA12.nmem1
     have hB53 := hw50.blk hB37 hA31.symm.nmem1
     try simp only [List.setIfInBounds_toArray, List.set_cons_zero, List.set_cons_succ, Nat.reduceAdd, Nat.zero_add, Nat.add_zero] at hB49
     refine wl_nil (nrm_then ?_)
     refine cw_ret (ret_block (ret_then (body_retC1 rfl (ResOk.cellA rfl Try.agg68 Try.size68 hB49 rfl) ?_)))
     rw [if_pos (by omega)] at hr
     refine ⟨nob, _, rfl, ?_, hE51⟩
     simpa [hs19] using hr
   ·skip
    have hsz := hh.2.1
    have hr := rep_of h6 g6 (by omega) hl1 hh
    unfold repHead at hr
    rw [if_neg (by omega), if_neg (by omega)] at hr
    have hsz2 : kh.size ≤ 100000 := by omega
    refine cw_seq ?_
    refine cw_region ?_
    refine wl_val rfl (ex_fieldAddr rfl Try.fld68_1) ?_
    refine wl_val rfl (ex_load1 rfl Try.agg4 (cell_nth hB37 rfl)) ?_
    refine wl_val rfl (ex_notb rfl) ?_
    refine wl_m ?_
    refine wl_splitb (t := 29) rfl (fun hs29 => ?_) (fun hs29 => ?_)
    ·skip
     refine wl_n ?_
     refine wl_n ?_
     refine wl_n ?_
     refine wl_pt ?_
     refine wl_a ?_
     refine wl_nil (nrm_then ?_)
     refine cw_true rfl ?_
     refine cw_seq ?_
     refine cw_region ?_
     refine wl_val rfl (ex_loadBlk rfl Try.agg68 Try.size68 hB37 rfl) ?_
     refine wl_storeBlk rfl rfl Try.size68 hB41 rfl rfl ⟨by first | rfl | assumption, by first | rfl | assumption, trivial⟩ fun w54 hB55 hw56 => ?_
     have hE57 := hE39.step hw56 hG13.mem1
     have hB58 := hw56.blk hB40 hA12.nmem1
     have hB59 := hw56.blk hB37 hA31.symm.nmem1
     try simp only [List.setIfInBounds_toArray, List.set_cons_zero, List.set_cons_succ, Nat.reduceAdd, Nat.zero_add, Nat.add_zero] at hB55
     refine wl_nil (nrm_then ?_)
     refine cw_ret (ret_block (ret_then (body_retC1 rfl (ResOk.cellA rfl Try.agg68 Try.size68 hB55 rfl) ?_)))
     rw [if_pos (.inl (by simpa using hs29))] at hr
     exact ⟨kh, kx, rfl, hr, hE57⟩
    ·skip
     refine wl_g ?_
     refine wl_val rfl (ex_fieldAddr rfl Try.fld68_0) ?_
     refine wl_g ?_
     refine wl_val rfl (ex_load1 rfl Try.agg9 (cell_nth hB37 rfl)) ?_
     refine wl_g ?_
     refine wl_val rfl (ex_eqs rfl rfl) ?_
     refine wl_pf ?_
     refine wl_a ?_
     refine wl_nil (nrm_then ?_)
     refine cw_if rfl (fun hc25 => ?_) (fun hc25 => ?_)
     ·skip
      refine cw_seq ?_
      refine cw_region ?_
      refine wl_val rfl (ex_loadBlk rfl Try.agg68 Try.size68 hB37 rfl) ?_
      refine wl_storeBlk rfl rfl Try.size68 hB41 rfl rfl ⟨by first | rfl | assumption, by first | rfl | assumption, trivial⟩ fun w60 hB61 hw62 => ?_
      have hE63 := hE39.step hw62 hG13.mem1
      have hB64 := hw62.blk hB40 hA12.nmem1
      have hB65 := hw62.blk hB37 hA31.symm.nmem1
      try simp only [List.setIfInBounds_toArray, List.set_cons_zero, List.set_cons_succ, Nat.reduceAdd, Nat.zero_add, Nat.add_zero] at hB61
      refine wl_nil (nrm_then ?_)
      refine cw_ret (ret_block (ret_then (body_retC1 rfl (ResOk.cellA rfl Try.agg68 Try.size68 hB61 rfl) ?_)))
      rw [if_pos (.inr (by simpa using hc25))] at hr
      exact ⟨kh, kx, rfl, hr, hE63⟩
     ·skip
      refine cw_skip (nrm_block (nrm_then ?_))
      refine cw_seq ?_
      refine cw_any (fun w0 w' => Evo [] w0 w') (by kernel_rfl) (fun w66 hw67 => ?_)
      have hE68 := hE39.then hw67
      have hB69 := hw67.blk0 hB40
      have hB70 := hw67.blk0 hB41
      have hB71 := hw67.blk0 hB37
      refine ae_take 0 rfl (by kernel_rfl) (by kernel_rfl) (by kernel_rfl) rfl (fun _ hS => ex_fieldAddr rfl Try.fld68_0) (Evo.refl [] w66) ?_
      refine ae_take 1 rfl (by kernel_rfl) (by kernel_rfl) (by kernel_rfl) rfl (fun _ hS => ex_load1 rfl Try.agg9 (cell_nth (hS.blk0 hB71) rfl)) (Evo.refl [] w66) ?_
      refine ae_take 2 rfl (by kernel_rfl) (by kernel_rfl) (by kernel_rfl) rfl (fun _ hS => ex_fieldAddr rfl Try.fld25_3) (Evo.refl [] w66) ?_
      refine ae_take 3 rfl (by kernel_rfl) (by kernel_rfl) (by kernel_rfl) rfl (fun _ hS => ex_load1 rfl Try.agg3 (cell_nth (hS.blk0 hB69) rfl)) (Evo.refl [] w66) ?_
      refine ae_take 5 rfl (by kernel_rfl) (by kernel_rfl) (by kernel_rfl) rfl (fun _ hS => ex_fieldAddr rfl Try.fld25_4) (Evo.refl [] w66) ?_
      refine ae_take 6 rfl (by kernel_rfl) (by kernel_rfl) (by kernel_rfl) rfl (fun _ hS => ex_load1 rfl Try.agg3 (cell_nth (hS.blk0 hB69) rfl)) (Evo.refl [] w66) ?_
      refine ae_take 7 rfl (by kernel_rfl) (by kernel_rfl) (by kernel_rfl) rfl (fun _ hS => ex_fieldAddr rfl Try.fld25_3) (Evo.refl [] w66) ?_
      refine ae_take 8 rfl (by kernel_rfl) (by kernel_rfl) (by kernel_rfl) rfl (fun _ hS => ex_load1 rfl Try.agg3 (cell_nth (hS.blk0 hB69) rfl)) (Evo.refl [] w66) ?_
      refine ae_take 9 rfl (by kernel_rfl) (by kernel_rfl) (by kernel_rfl) rfl (fun _ hS => ex_eql rfl rfl) (Evo.refl [] w66) ?_
      refine ae_loud [4] (by kernel_rfl) rfl ⟨?_, trivial⟩
      refine a_step rfl ?_
      refine wl_call1 (vs := [_, _]) Try.goes71 rfl (repI_ok kh t.min g6 g62 hsz2) rfl ?_
      rintro _ w72 ⟨rfl, hw73⟩
      have hE74 := hE68.then hw73
      have hE75 := (Evo.refl [] w66).then hw73
      have hB76 := hw73.blk0 hB69
      have hB77 := hw73.blk0 hB70
      have hB78 := hw73.blk0 hB71
      refine wl_nil (ae_next (.inl hE75) ?_)
      refine ae_take 10 rfl (by kernel_rfl) (by kernel_rfl) (by kernel_rfl) rfl (fun _ hS => ex_build (vs := [(0, _), (1, _)]) Try.build68 rfl (cells := [_, _]) rfl) hE75 ?_
      refine ae_loud [11] (by kernel_rfl) rfl ⟨?_, trivial⟩
      refine a_step rfl ?_
      refine wl_storeBlk rfl rfl Try.size68 hB77 rfl rfl ⟨by first | rfl | assumption, by first | rfl | assumption, trivial⟩ fun w79 hB80 hw81 => ?_
      have hE82 := hE74.step hw81 hG13.mem1
      have hB84 := hw81.blk hB76 hA12.nmem1
      have hB85 := hw81.blk hB78 hA31.symm.nmem1
      try simp only [List.setIfInBounds_toArray, List.set_cons_zero, List.set_cons_succ, Nat.reduceAdd, Nat.zero_add, Nat.add_zero] at hB80
      refine wl_nil (ae_next (.inr (by kernel_rfl)) ?_)
      refine ae_done (by kernel_rfl) (nrm_then ?_)
      refine cw_ret (body_retC1 rfl (ResOk.cellA rfl Try.agg68 Try.size68 hB80 rfl) ?_)
      rw [if_neg (fun h => h.elim (fun h => by simp [h] at hs29) (fun h => by simp [h] at hc25))] at hr
      exact ⟨_, _, rfl, hr, hE82⟩


theorem mts_app {rs : List Int} : ∀ {a b : List Rx} {i j : Nat}, Mts rs (a ++ b) i j ↔ ∃ k, Mts rs a i k ∧ Mts rs b k j
  | [], b, i, j => by
    rw [List.nil_append]
    constructor
    · exact fun h => ⟨i, by rw [Mts], h⟩
    · rintro ⟨k, h1, h2⟩; rw [Mts] at h1; subst h1; exact h2
  | x :: a, b, i, j => by
    rw [List.cons_append, Mts]
    constructor
    · rintro ⟨m, h1, h2⟩
      obtain ⟨k, h3, h4⟩ := mts_app.1 h2
      exact ⟨k, by rw [Mts]; exact ⟨m, h1, h3⟩, h4⟩
    · rintro ⟨k, h1, h2⟩
      rw [Mts] at h1
      obtain ⟨m, h3, h4⟩ := h1
      exact ⟨m, h3, mts_app.2 ⟨k, h4, h2⟩⟩
theorem eszs_tk (l : List Rx) (k : Nat) : eszs (l.take k) ≤ eszs l := by
  by_cases h : k < l.length
  · have := eszs_le h; omega
  · rw [List.take_of_length_le (by omega)]; exact Nat.le_refl _
abbrev bya (l : List UInt8) : ByteArray := ⟨l.toArray⟩
theorem bya_app (l : List UInt8) (h : ByteArray) : bya (l ++ h.data.toList) = bya l ++ h := by
  apply ByteArray.ext
  simp [bya]
theorem take_snoc {l : List Rx} {k : Nat} (h : k < l.length) : l.take (k + 1) = l.take k ++ [l[k]] := by
  rw [List.take_add_one, List.getElem?_eq_getElem h]; rfl
theorem cat_step {s : ByteArray} {N : Nat} {t : Rx} {k : Nat} {l : List UInt8} {h : ByteArray} {ex : Bool} (hk : k < t.kids.length) (h1 : Hd s N (Mts (runesK s N) (t.kids.take k)) (bya l) true) (h2 : HOf s N t.kids[k] h ex) :
    Hd s N (Mts (runesK s N) (t.kids.take (k + 1))) (bya (l ++ h.data.toList)) ex := by
  rw [bya_app, take_snoc hk]
  exact (Hd.seq (mtsfwd s N _) h1 h2.1).congr fun i j _ hm => mts_snoc.1 hm
theorem cat_len {t : Rx} {k : Nat} {l : List UInt8} {h : ByteArray} (hk : k < t.kids.length) (h1 : l.length ≤ 4 * eszs (t.kids.take k)) (h2 : h.size ≤ 4 * t.kids[k].esz) : (l ++ h.data.toList).length ≤ 4 * eszs (t.kids.take (k + 1)) := by
  have e : (l ++ h.data.toList).length = l.length + h.size := by rw [List.length_append]; rfl
  rw [e, eszs_take hk]; omega
theorem mt_cat {s : ByteArray} {N : Nat} {t : Rx} (hk : t.kind = 4) {i j : Nat} (hm : Mt (runesK s N) t i j) : Mts (runesK s N) t.kids i j := by
  rw [mt_eq] at hm
  rcases hm with ⟨h1, _⟩ | ⟨h1, _⟩ | ⟨h1, _⟩ | ⟨_, h1⟩ | ⟨h1, _⟩ | ⟨h1, _⟩ | ⟨h1, _⟩ | ⟨h1, _⟩ <;> first | exact h1 | omega
theorem mt_alt {s : ByteArray} {N : Nat} {t : Rx} (hk : t.kind = 5) {i j : Nat} (hm : Mt (runesK s N) t i j) : MtA (runesK s N) t.kids i j := by
  rw [mt_eq] at hm
  rcases hm with ⟨h1, _⟩ | ⟨h1, _⟩ | ⟨h1, _⟩ | ⟨h1, _⟩ | ⟨_, h1⟩ | ⟨h1, _⟩ | ⟨h1, _⟩ | ⟨h1, _⟩ <;> first | exact h1 | omega
theorem cat_cut {s : ByteArray} {N : Nat} {t : Rx} {k : Nat} {l : List UInt8} {ex : Bool} (hk : t.kind = 4) (h1 : Hd s N (Mts (runesK s N) (t.kids.take k)) (bya l) ex) (h2 : l.length ≤ 4 * eszs (t.kids.take k)) : HOf s N t (bya l) false := by
  have e4 := esz4 hk
  have h3 := eszs_tk t.kids k
  refine ⟨(Hd.cut (mtsfwd s N _) (mtsfwd s N (t.kids.drop k)) h1).congr fun i j _ hm => ?_, by show l.length ≤ _; omega, known_no (by omega) (by omega)⟩
  have h4 := mt_cat hk hm
  rw [← List.take_append_drop k t.kids] at h4
  exact mts_app.1 h4
theorem cat_all {s : ByteArray} {N : Nat} {t : Rx} {k : Nat} {l : List UInt8} (hk : t.kind = 4) (hj : t.kids.length ≤ k) (h1 : Hd s N (Mts (runesK s N) (t.kids.take k)) (bya l) true) (h2 : l.length ≤ 4 * eszs (t.kids.take k)) : HOf s N t (bya l) true := by
  have e4 := esz4 hk
  rw [List.take_of_length_le hj] at h1 h2
  exact ⟨h1.congr fun i j _ hm => mt_cat hk hm, by show l.length ≤ _; omega, known_no (by omega) (by omega)⟩
theorem alt_one {s : ByteArray} {N : Nat} {t : Rx} {h : ByteArray} {ex : Bool} (h0 : 0 < t.kids.length) (h1 : HOf s N t.kids[0] h ex) : Hd s N (MtA (runesK s N) (t.kids.take 1)) h ex ∧ h.size ≤ 4 * eszs (t.kids.take 1) := by
  have e : t.kids.take 1 = [t.kids[0]] := by rw [take_snoc h0]; simp
  refine ⟨h1.1.congr fun i j _ hm => ?_, ?_⟩
  · rw [e, MtA] at hm
    rcases hm with hm | hm
    · exact hm
    · rw [MtA] at hm; exact hm.elim
  · rw [eszs_take h0]; have := h1.2.1; omega
theorem alt_step {s : ByteArray} {N : Nat} {t : Rx} {k e : Nat} {h u : ByteArray} {ex fx : Bool} (hU : Utf s N) (hk : k < t.kids.length) (h1 : Hd s N (MtA (runesK s N) (t.kids.take k)) h ex ∧ h.size ≤ 4 * eszs (t.kids.take k)) (h2 : HOf s N t.kids[k] u fx)
    (e1 : e ≤ h.size) (e2 : e ≤ u.size) (e3 : h.extract 0 e = u.extract 0 e) (e4 : h = u → (∃ M, Utf h M) → e = h.size) :
    Hd s N (MtA (runesK s N) (t.kids.take (k + 1))) (h.extract 0 e) (ex && fx && decide (h = u)) ∧ (h.extract 0 e).size ≤ 4 * eszs (t.kids.take (k + 1)) := by
  have e := eszs_take hk
  refine ⟨(Hd.alt hU (mtafwd s N _) (mtfwd s N _) h1.1 h2.1 e1 e2 e3 e4).congr fun i j _ hm => ?_, by rw [sub_size e1]; have := h1.2; omega⟩
  rw [take_snoc hk] at hm
  exact mta_snoc.1 hm
theorem alt_all {s : ByteArray} {N : Nat} {t : Rx} {k : Nat} {h : ByteArray} {ex : Bool} (hk : t.kind = 5) (hj : t.kids.length ≤ k) (h1 : Hd s N (MtA (runesK s N) (t.kids.take k)) h ex ∧ h.size ≤ 4 * eszs (t.kids.take k)) : HOf s N t h ex := by
  rw [List.take_of_length_le hj] at h1
  by_cases h0 : 1 ≤ t.kids.length
  · have e5 := esz5 hk h0
    exact ⟨h1.1.congr fun i j _ hm => mt_alt hk hm, by have := h1.2; omega, known_no (by omega) (by omega)⟩
  · have e : t.kids = [] := List.length_eq_zero_iff.1 (by omega)
    refine ⟨h1.1.congr fun i j _ hm => mt_alt hk hm, ?_, known_no (by omega) (by omega)⟩
    have := h1.2
    rw [e, eszs] at this
    omega
structure CaG where
  k : Nat
  l : List UInt8
  ob : Option Nat
structure CaI (s : ByteArray) (N : Nat) (t : Rx) (wr : World) (b2 b5 : Nat) (x : CaG) : Prop where
  k : x.k ≤ t.kids.length
  b2 : wr.heap[b2]? = some (.cells #[.string nob, .bool false] 68 (0, 0))
  bd : BdAt wr b5 x.l x.ob
  ge : ∀ g, x.ob = some g → b5 ≤ g
  hd : Hd s N (Mts (runesK s N) (t.kids.take x.k)) (bya x.l) true
  len : x.l.length ≤ 4 * eszs (t.kids.take x.k)
structure AlG2 where
  k : Nat
  h : ByteArray
  x : Bool
structure AlI2 (s : ByteArray) (N : Nat) (t : Rx) (wr : World) (b2 b9 : Nat) (x : AlG2) : Prop where
  k : x.k + 1 ≤ t.kids.length
  b2 : wr.heap[b2]? = some (.cells #[.string nob, .bool false] 68 (0, 0))
  b9 : wr.heap[b9]? = some (.cells #[.string x.h, .bool x.x] 68 (0, 0))
  hd : Hd s N (MtA (runesK s N) (t.kids.take (x.k + 1))) x.h x.x ∧ x.h.size ≤ 4 * eszs (t.kids.take (x.k + 1))
theorem cat_zero {s : ByteArray} {N : Nat} {t : Rx} : Hd s N (Mts (runesK s N) (t.kids.take 0)) (bya []) true := Hd.eps fun i j hm => by rw [List.take_zero, Mts] at hm; exact hm

set_option maxHeartbeats 8000000 in
theorem head_step {s : ByteArray} {N n : Nat} (hU : Utf s N) (ih : ∀ {X : List Nat} {w : World} {vs : List Value} {t : Rx} (hx : RRx n X w vs t) (hg : Good t) (hl : t.esz ≤ 9999), Calls Try.prog 26 #[.agg vs.toArray] w (Ret fun v w' => ∃ h ex, v = .agg #[.string h, .bool ex] ∧ HOf s N t h ex ∧ Evo [] w w')) {X : List Nat} {w : World} {vs : List Value} {t : Rx} (hx : RRx (n + 1) X w vs t) (hg : Good t) (hl : t.esz ≤ 9999) : Calls Try.prog 26 #[.agg vs.toArray] w (Ret fun v w' => ∃ h ex, v = .agg #[.string h, .bool ex] ∧ HOf s N t h ex ∧ Evo [] w w') := by
  have hx0 := hx
  obtain ⟨m, ra, rc, ka, kc, hm, rfl, hrg, hk, bl1, bl2, bl3⟩ := hx.get
  obtain rfl : m = n := by omega
  obtain ⟨_, _, hke, hkc, e1⟩ := hk
  cases hke
  have hn := (nodeP_iff t).1 hg.node
  refine calls_of_cw (N := 103) Try.func26 rfl rfl rfl ?_
  refine cw_seq ?_
  refine cw_region ?_
  refine wl_boxA rfl rfl fun b1 w2 hB3 hs4 hw5 => ?_
  have hG6 := Ge.new (Evo.refl [] w) hs4
  have hE7 := (Evo.refl [] w).then hw5
  refine wl_alloc rfl Try.zero68 fun b2 w8 hB9 hs10 hw11 => ?_
  have hsz_b2 := hs10
  have hA12 := Apart.new (Lt.blk hB3) hs10
  have hG13 := Ge.new hE7 hs10
  have hE14 := hE7.then hw11
  have hB15 := hw11.blk0 hB3
  refine wl_nil (nrm_then ?_)
  refine cw_seq ?_
  refine cw_seq ?_
  refine cw_region ?_
  refine wl_val rfl (ex_fieldAddr rfl Try.fld25_0) ?_
  refine wl_val rfl (ex_load1 rfl Try.agg3 (cell_nth hB15 rfl)) ?_
  refine wl_nil (nrm_then ?_)
  refine cw_block ?_
  refine cw_seq ?_
  refine cw_region ?_
  refine wl_val rfl (ex_eql rfl rfl) ?_
  refine wl_a ?_
  refine wl_nil (nrm_then ?_)
  refine cw_if rfl (fun hc15 => ?_) (fun hc15 => ?_)
  ·skip
   refine cw_seq ?_
   refine cw_region ?_
   refine wl_val rfl (ex_fieldAddr rfl Try.fld25_1) ?_
   refine wl_val rfl (ex_load1 rfl Try.agg21 (cell_nth hB15 rfl)) ?_
   refine wl_bslice (vs := [_]) rfl Try.slice58 rfl rfl rfl rfl fun b16 w17 hO18 hs19 hw20 => ?_
   have hA21 := Apart.new (Lt.blk hB15) hs19
   have hA22 := Apart.new (Lt.blk hB9) hs19
   have hG23 := Ge.new hE14 hs19
   have hE24 := hE14.then hw20
   have hB25 := hw20.blk0 hB15
   have hB26 := hw20.blk0 hB9
   refine wl_call1 (vs := [_]) Try.goes44 rfl (lit_text (r := t.r) hO18) rfl ?_
   rintro _ w27 ⟨rfl, hw28⟩
   have hE29 := hE24.then hw28
   have hB30 := hw28.blk0 hB25
   have hB31 := hw28.blk0 hB26
   have hO32 := hO18.evo0 hw28
   refine wl_m ?_
   refine wl_val rfl (ex_extract rfl rfl) ?_
   refine wl_val rfl (ex_extract rfl rfl) ?_
   refine wl_a ?_
   refine wl_a ?_
   refine wl_nil (nrm_then ?_)
   refine cw_seq ?_
   refine cw_region ?_
   refine wl_m ?_
   refine wl_m ?_
   refine wl_val rfl (ex_eql rfl rfl) ?_
   refine wl_val rfl (ex_build (vs := [(0, _), (1, _)]) Try.build68 rfl (cells := [_, _]) rfl) ?_
   refine wl_storeBlk rfl rfl Try.size68 hB31 rfl rfl ⟨by first | rfl | assumption, by first | rfl | assumption, trivial⟩ fun w33 hB34 hw35 => ?_
   have hE36 := hE29.step hw35 hG13.mem1
   try simp only [List.setIfInBounds_toArray, List.set_cons_zero, List.set_cons_succ, Nat.reduceAdd, Nat.zero_add, Nat.add_zero] at hB34
   refine wl_nil (nrm_then ?_)
   refine cw_ret (ret_block (ret_then (body_retC1 rfl (ResOk.cellA rfl Try.agg68 Try.size68 hB34 rfl) ?_)))
   refine ⟨bstr (formB t.r), _, rfl, ?_, hE36⟩
   by_cases hir : IsR t.r
   · rw [if_pos hir]; simpa using lit_head hU (by omega) hir
   · rw [if_neg hir, formB_no hir]; simpa using lit_none hc15 hir
  ·skip
   refine cw_seq ?_
   refine cw_region ?_
   refine wl_val rfl (ex_eql rfl rfl) ?_
   refine wl_a ?_
   refine wl_nil (nrm_then ?_)
   refine cw_if rfl (fun hc28 => ?_) (fun hc28 => ?_)
   ·skip
    refine cw_seq ?_
    refine cw_region ?_
    refine wl_val rfl (ex_build (vs := []) Try.build68 rfl (cells := [_, _]) rfl) ?_
    refine wl_storeBlk rfl rfl Try.size68 hB9 rfl rfl ⟨by first | rfl | assumption, by first | rfl | assumption, trivial⟩ fun w37 hB38 hw39 => ?_
    have hE40 := hE14.step hw39 hG13.mem1
    have hB41 := hw39.blk hB15 hA12.nmem1
    try simp only [List.setIfInBounds_toArray, List.set_cons_zero, List.set_cons_succ, Nat.reduceAdd, Nat.zero_add, Nat.add_zero] at hB38
    refine wl_nil (nrm_then ?_)
    refine cw_ret (ret_block (ret_then (body_retC1 rfl (ResOk.cellA rfl Try.agg68 Try.size68 hB38 rfl) ?_)))
    exact ⟨nob, false, rfl, any_none (by omega), hE40⟩
   ·skip
    refine cw_seq ?_
    refine cw_region ?_
    refine wl_val rfl (ex_eql rfl rfl) ?_
    refine wl_a ?_
    refine wl_nil (nrm_then ?_)
    refine cw_if rfl (fun hc31 => ?_) (fun hc31 => ?_)
    ·skip
     have hl1 : t.kids.length = 1 := by have h1 := hn.rep4; have h2 := hn.grp; omega
     have hj' : 0 < t.kids.length := by omega
     obtain ⟨b1, o1, vs1, ha1, hb1, hvl1, hc1, hrk⟩ := e1 0 hj'
     obtain ⟨m1, ra1, rc1, ka1, kc1, rfl, rfl, -⟩ := id hrk.get
     have he1 := eszs_one hl1
     have he7 := esz7 (t := t) (by omega)
     have hkk : t.kids[0].esz ≤ 9999 := by omega
     refine cw_seq ?_
     refine cw_region ?_
     refine wl_val rfl (ex_fieldAddr rfl Try.fld25_8) ?_
     refine wl_val rfl (ex_load1 rfl Try.agg23 (cell_nth hB15 rfl)) ?_
     refine wl_val rfl (ex_indexAddrZ (n := 0) (by rw [ha1]; rfl) rfl rfl Try.elem23 (by omega)) ?_
     refine wl_val rfl (ex_loadA rfl Try.agg25 Try.size25 (vs := [_, _, _, _, _, _, _, _, _]) rfl (hc1.evo hE14 (by simp))) ?_
     refine wl_call1 (vs := [_]) Try.goes26 rfl (ih (RRx.pers _ _ _ _ _ _ (hE14.mono (fun b hb => by cases hb)) hrk) (hg.kid _ (List.getElem_mem hj')) (hkk)) rfl ?_
     rintro _ w42 ⟨kh, kx, rfl, hh, hw43⟩
     have hE44 := hE14.then hw43
     have hB45 := hw43.blk0 hB15
     have hB46 := hw43.blk0 hB9
     refine wl_storeBlk rfl rfl Try.size68 hB46 rfl rfl ⟨by first | rfl | assumption, by first | rfl | assumption, trivial⟩ fun w47 hB48 hw49 => ?_
     have hE50 := hE44.step hw49 hG13.mem1
     have hB51 := hw49.blk hB45 hA12.nmem1
     try simp only [List.setIfInBounds_toArray, List.set_cons_zero, List.set_cons_succ, Nat.reduceAdd, Nat.zero_add, Nat.add_zero] at hB48
     refine wl_nil (nrm_then ?_)
     refine cw_ret (ret_block (ret_then (body_retC1 rfl (ResOk.cellA rfl Try.agg68 Try.size68 hB48 rfl) ?_)))
     exact ⟨kh, kx, rfl, grp_head (by omega) hl1 hh, hE50⟩
    ·skip
     refine cw_seq ?_
     refine cw_region ?_
     refine wl_val rfl (ex_eql rfl rfl) ?_
     refine wl_a ?_
     refine wl_nil (nrm_then ?_)
     refine cw_if rfl (fun hc38 => ?_) (fun hc38 => ?_)
     ·skip
      have he4 := esz4 (t := t) (by omega)
      refine cw_seq ?_
      refine cw_region ?_
      have hlt2 := blk_lt hB9
      refine wl_alloc rfl Try.zero95 fun b5 w52 hB53 hs54 hw55 => ?_
      have hsz_b5 := hs54
      have hA56 := Apart.new (Lt.blk hB15) hs54
      have hA57 := Apart.new (Lt.blk hB9) hs54
      have hG58 := Ge.new hE14 hs54
      have hG59 := Ge.new (Evo.refl [] w8) hs54
      have hE60 := hE14.then hw55
      have hE61 := (Evo.refl [] w8).then hw55
      have hB62 := hw55.blk0 hB15
      have hB63 := hw55.blk0 hB9
      refine wl_nil (nrm_then ?_)
      refine cw_seq ?_
      refine cw_seq ?_
      refine cw_region ?_
      have hwb := hG58 _ rfl
      have hb25 : b2 < b5 := Nat.lt_of_lt_of_le hlt2 (hG59 _ rfl)
      refine wl_val rfl (ex_fieldAddr rfl Try.fld25_8) ?_
      refine wl_val rfl (ex_load1 rfl Try.agg23 (cell_nth hB62 rfl)) ?_
      refine wl_val rfl (ex_len_slice rfl Try.underlying23 rfl) ?_
      refine wl_m ?_
      refine wl_nil (nrm_then ?_)
      refine cw_block ?_
      refine cw_loop (α := CaG) (⟨0, [], none⟩) (fun x => [(43, .int .i64 (x.k : Nat))]) [(2, _), (5, _), (41, _), (42, _)] (fun x wr => Evo [] w wr ∧ (CaI s N t wr b2 b5 x)) (fun x => t.kids.length - x.k) ⟨rfl, trivial⟩ ⟨rfl, rfl, rfl, rfl, trivial⟩ ⟨hE60, ⟨Nat.zero_le _, hB63, BdAt.new hB53, (fun g h => by cases h), cat_zero, Nat.zero_le _⟩⟩ ?_
      rintro ⟨k, l, ob⟩ wr64 ⟨hV65, ⟨hk, hb2, hbd, hbg, hcd, hcl⟩⟩
      show CW _ _ _ _ [(43, .int .i64 (k : Nat)), (2, _), (5, _), (41, _), (42, _)] _
      try dsimp only at hk
      try dsimp only at hb2
      try dsimp only at hbd
      try dsimp only at hbg
      try dsimp only at hcd
      try dsimp only at hcl
      have hE66 := Evo.refl ([]) wr64
      have hlt5 := hbd.lt
      have hltO := hbd.ltO
      refine cw_seq ?_
      refine cw_region ?_
      refine wl_val rfl (ex_lss rfl rfl) ?_
      refine wl_nil (nrm_then ?_)
      refine cw_seq ?_
      refine cw_if rfl (fun hc44 => ?_) (fun hc44 => ?_)
      ·skip
       have hj' : k < t.kids.length := by omega
       obtain ⟨b1, o1, vs1, ha1, hb1, hvl1, hc1, hrk⟩ := e1 k hj'
       obtain ⟨m1, ra1, rc1, ka1, kc1, rfl, rfl, -⟩ := id hrk.get
       have hek := eszs_le hj'
       have hkk : t.kids[k].esz ≤ 9999 := by omega
       refine cw_skip (nrm_then ?_)
       refine cw_seq ?_
       refine cw_block ?_
       refine cw_seq ?_
       refine cw_region ?_
       refine wl_val rfl (ex_indexAddr (n := k) (by rw [ha1]; rfl) rfl Try.elem23 (by omega)) ?_
       refine wl_val rfl (ex_loadA rfl Try.agg25 Try.size25 (vs := [_, _, _, _, _, _, _, _, _]) rfl (hc1.evo hV65 (by simp))) ?_
       refine wl_alloc rfl Try.zero25 fun b7 w67 hB68 hs69 hw70 => ?_
       have hsz_b7 := hs69
       have hA71 := Apart.new (Lt.blk hb2) hs69
       have hG72 := Ge.new hV65 hs69
       have hG73 := Ge.new hE66 hs69
       have hE74 := hV65.then hw70
       have hE75 := hE66.then hw70
       have hB76 := hw70.blk0 hb2
       have hF77 := hbd.evo0 hw70
       refine wl_storeBlk rfl rfl Try.size25 hB68 rfl rfl ⟨by first | rfl | assumption, by first | rfl | assumption, by first | rfl | assumption, by first | rfl | assumption, by first | rfl | assumption, by first | rfl | assumption, by first | rfl | assumption, by first | rfl | assumption, by first | rfl | assumption, trivial⟩ fun w78 hB79 hw80 => ?_
       have hE81 := hE74.step hw80 hG72.mem1
       have hE82 := hE75.step hw80 hG73.mem1
       have hB83 := hw80.blk hB76 hA71.nmem1
       have hF84 := hF77.evo hw80 (fun h => by have h8 := hG73 _ rfl; have h9 := List.mem_singleton.1 h; omega) (fun g hg hm => by have h8 := hG73 _ rfl; have h9 := hltO g hg; have h10 := List.mem_singleton.1 hm; omega)
       try simp only [List.setIfInBounds_toArray, List.set_cons_zero, List.set_cons_succ, Nat.reduceAdd, Nat.zero_add, Nat.add_zero] at hB79
       refine wl_nil (nrm_then ?_)
       refine cw_seq ?_
       refine cw_region ?_
       refine wl_val rfl (ex_loadBlk rfl Try.agg25 Try.size25 hB79 rfl) ?_
       refine wl_call1 (vs := [_]) Try.goes26 rfl (ih (RRx.pers _ _ _ _ _ _ (hE81.mono (fun b hb => by cases hb)) hrk) (hg.kid _ (List.getElem_mem hj')) (hkk)) rfl ?_
       rintro _ w85 ⟨kh1, kx1, rfl, hh1, hw86⟩
       have hE87 := hE81.then hw86
       have hE88 := hE82.then hw86
       have hB89 := hw86.blk0 hB83
       have hF90 := hF84.evo0 hw86
       have hB91 := hw86.blk0 hB79
       refine wl_alloc rfl Try.zero68 fun b8 w92 hB93 hs94 hw95 => ?_
       have hsz_b8 := hs94
       have hA96 := Apart.new (Lt.blk hB89) hs94
       have hA97 := Apart.new (Lt.blk hB91) hs94
       have hG98 := Ge.new hE87 hs94
       have hG99 := Ge.new hE88 hs94
       have hE100 := hE87.then hw95
       have hE101 := hE88.then hw95
       have hB102 := hw95.blk0 hB89
       have hF103 := hF90.evo0 hw95
       have hB104 := hw95.blk0 hB91
       refine wl_storeBlk rfl rfl Try.size68 hB93 rfl rfl ⟨by first | rfl | assumption, by first | rfl | assumption, trivial⟩ fun w105 hB106 hw107 => ?_
       have hE108 := hE100.step hw107 hG98.mem1
       have hE109 := hE101.step hw107 hG99.mem1
       have hB110 := hw107.blk hB102 hA96.nmem1
       have hF111 := hF103.evo hw107 (fun h => by have h8 := hG99 _ rfl; have h9 := List.mem_singleton.1 h; omega) (fun g hg hm => by have h8 := hG99 _ rfl; have h9 := hltO g hg; have h10 := List.mem_singleton.1 hm; omega)
       have hB112 := hw107.blk hB104 hA97.nmem1
       try simp only [List.setIfInBounds_toArray, List.set_cons_zero, List.set_cons_succ, Nat.reduceAdd, Nat.zero_add, Nat.add_zero] at hB106
       refine wl_nil (nrm_then ?_)
       refine cw_seq ?_
       refine cw_region ?_
       refine wl_val rfl (ex_fieldAddr rfl Try.fld68_0) ?_
       refine wl_val rfl (ex_load1 rfl Try.agg9 (cell_nth hB106 rfl)) ?_
       have hb9 := eszs_tk t.kids k
       have hz9 := hh1.2.1
       have hl9 := (hF111).lt
       refine wl_call1 (vs := [_, _]) Try.goes45 rfl (write_ok hF111 kh1 (by omega)) rfl ?_
       rintro _ w113 ⟨ob2, hbd2, hw114, hob2⟩
       have hE115 := hE108.step hw114 (fun y hy => .inr (by rcases List.mem_cons.1 hy with rfl | h; exact hwb; exact Nat.le_trans hwb (hbg y (by simpa using h))))
       have hB116 := hw114.blk hB110 (fun h => by rcases List.mem_cons.1 h with h9 | h9; omega; (have := hbg b2 (by simpa using h9); omega))
       have hB117 := hw114.blk hB106 (fun h => by have h8 := hG99 _ rfl; rcases List.mem_cons.1 h with h9 | h9; omega; (have := hltO b8 (by simpa using h9); omega))
       have hbg2 : ∀ g, ob2 = some g → b5 ≤ g := fun g hg => by rcases hob2 with h9 | ⟨g', h9, h10⟩; exact hbg g (h9 ▸ hg); (rw [h9] at hg; cases hg; omega)
       have hst := cat_step hj' hcd hh1
       have hsl := cat_len hj' hcl hh1.2.1
       refine wl_nil (nrm_then ?_)
       refine cw_seq ?_
       refine cw_region ?_
       refine wl_val rfl (ex_fieldAddr rfl Try.fld68_1) ?_
       refine wl_val rfl (ex_load1 rfl Try.agg4 (cell_nth hB117 rfl)) ?_
       refine wl_val rfl (ex_notb rfl) ?_
       refine wl_nil (nrm_then ?_)
       refine cw_ifb rfl (fun hc54 => ?_) (fun hc54 => ?_)
       ·skip
        refine cw_seq ?_
        refine cw_region ?_
        refine wl_call1 (vs := [_]) Try.goes46 rfl (bstring_ok hbd2 hbg2) rfl ?_
        rintro _ w118 ⟨rfl, hw119⟩
        have hE120 := hE115.step hw119 (fun y hy => .inr (Nat.le_trans hwb (mem_xb.1 hy).2))
        have hB121 := hw119.blk hB116 (fun h => by have := (mem_xb.1 h).2; omega)
        refine wl_val rfl (ex_build (vs := [(0, _)]) Try.build68 rfl (cells := [_, _]) rfl) ?_
        refine wl_storeBlk rfl rfl Try.size68 hB121 rfl rfl ⟨by first | rfl | assumption, by first | rfl | assumption, trivial⟩ fun w122 hB123 hw124 => ?_
        have hE125 := hE120.step hw124 hG13.mem1
        try simp only [List.setIfInBounds_toArray, List.set_cons_zero, List.set_cons_succ, Nat.reduceAdd, Nat.zero_add, Nat.add_zero] at hB123
        refine wl_nil (nrm_then ?_)
        refine cw_ret (ret_block (ret_then (ret_then (ret_block (ret_then (ret_block (ret_then (body_retC1 rfl (ResOk.cellA rfl Try.agg68 Try.size68 hB123 rfl) ?_))))))))
        exact ⟨_, _, rfl, cat_cut (by omega) hst hsl, hE125⟩
       ·skip
        refine cw_skip (nrm_block (nrm_then ?_))
        refine cw_region ?_
        refine wl_val rfl (ex_add_i64 rfl rfl (by omega) (by omega)) ?_
        refine wl_m ?_
        refine wl_nil (nrm_same ?_)
        refine ⟨⟨k + 1, l ++ kh1.data.toList, ob2⟩, ?_, ⟨rfl, trivial⟩, ⟨rfl, rfl, rfl, rfl, trivial⟩, hE115, ?_⟩
        · (try dsimp only); omega
        ·skip
         try dsimp only
         have hkx : kx1 = true := by simpa using hc54
         subst hkx
         exact ⟨by show k + 1 ≤ _; omega, hB116, hbd2, hbg2, hst, hsl⟩
      ·skip
       refine cw_exit (ex_then (ex_then (ex_here (nrm_then ?_))))
       refine cw_seq ?_
       refine cw_region ?_
       refine wl_call1 (vs := [_]) Try.goes46 rfl (bstring_ok hbd hbg) rfl ?_
       rintro _ w126 ⟨rfl, hw127⟩
       have hE128 := hV65.step hw127 (fun y hy => .inr (Nat.le_trans hwb (mem_xb.1 hy).2))
       have hB129 := hw127.blk hb2 (fun h => by have := (mem_xb.1 h).2; omega)
       refine wl_val rfl (ex_build (vs := [(0, _), (1, _)]) Try.build68 rfl (cells := [_, _]) rfl) ?_
       refine wl_storeBlk rfl rfl Try.size68 hB129 rfl rfl ⟨by first | rfl | assumption, by first | rfl | assumption, trivial⟩ fun w130 hB131 hw132 => ?_
       have hE133 := hE128.step hw132 hG13.mem1
       try simp only [List.setIfInBounds_toArray, List.set_cons_zero, List.set_cons_succ, Nat.reduceAdd, Nat.zero_add, Nat.add_zero] at hB131
       refine wl_nil (nrm_then ?_)
       refine cw_ret (ret_block (ret_then (body_retC1 rfl (ResOk.cellA rfl Try.agg68 Try.size68 hB131 rfl) ?_)))
       exact ⟨_, _, rfl, cat_all (by omega) (by omega) hcd hcl, hE133⟩
     ·skip
      refine cw_seq ?_
      refine cw_region ?_
      refine wl_val rfl (ex_eql rfl rfl) ?_
      refine wl_a ?_
      refine wl_nil (nrm_then ?_)
      refine cw_if rfl (fun hc60 => ?_) (fun hc60 => ?_)
      ·skip
       have hal := hn.two (by omega)
       have he5 := esz5 (t := t) (by omega) (by omega)
       have hj' : 0 < t.kids.length := by omega
       obtain ⟨b1, o1, vs1, ha1, hb1, hvl1, hc1, hrk⟩ := e1 0 hj'
       obtain ⟨m1, ra1, rc1, ka1, kc1, rfl, rfl, -⟩ := id hrk.get
       have hek := eszs_le hj'
       have hkk : t.kids[0].esz ≤ 9999 := by omega
       refine cw_seq ?_
       refine cw_region ?_
       refine wl_val rfl (ex_fieldAddr rfl Try.fld25_8) ?_
       refine wl_val rfl (ex_load1 rfl Try.agg23 (cell_nth hB15 rfl)) ?_
       refine wl_val rfl (ex_indexAddrZ (n := 0) (by rw [ha1]; rfl) rfl rfl Try.elem23 (by omega)) ?_
       refine wl_val rfl (ex_loadA rfl Try.agg25 Try.size25 (vs := [_, _, _, _, _, _, _, _, _]) rfl (hc1.evo hE14 (by simp))) ?_
       refine wl_call1 (vs := [_]) Try.goes26 rfl (ih (RRx.pers _ _ _ _ _ _ (hE14.mono (fun b hb => by cases hb)) hrk) (hg.kid _ (List.getElem_mem hj')) (hkk)) rfl ?_
       rintro _ w134 ⟨kh1, kx1, rfl, hh1, hw135⟩
       have hE136 := hE14.then hw135
       have hB137 := hw135.blk0 hB15
       have hB138 := hw135.blk0 hB9
       refine wl_alloc rfl Try.zero68 fun b9 w139 hB140 hs141 hw142 => ?_
       have hsz_b9 := hs141
       have hA143 := Apart.new (Lt.blk hB137) hs141
       have hA144 := Apart.new (Lt.blk hB138) hs141
       have hG145 := Ge.new hE136 hs141
       have hE146 := hE136.then hw142
       have hB147 := hw142.blk0 hB137
       have hB148 := hw142.blk0 hB138
       refine wl_storeBlk rfl rfl Try.size68 hB140 rfl rfl ⟨by first | rfl | assumption, by first | rfl | assumption, trivial⟩ fun w149 hB150 hw151 => ?_
       have hE152 := hE146.step hw151 hG145.mem1
       have hB153 := hw151.blk hB147 hA143.nmem1
       have hB154 := hw151.blk hB148 hA144.nmem1
       try simp only [List.setIfInBounds_toArray, List.set_cons_zero, List.set_cons_succ, Nat.reduceAdd, Nat.zero_add, Nat.add_zero] at hB150
       refine wl_nil (nrm_then ?_)
       refine cw_seq ?_
       refine cw_seq ?_
       refine cw_region ?_
       refine wl_val rfl (ex_fieldAddr rfl Try.fld25_8) ?_
       refine wl_val rfl (ex_load1 rfl Try.agg23 (cell_nth hB153 rfl)) ?_
       refine wl_val rfl (ex_sliceFrom (l := 1) rfl rfl Try.underlying23 Try.size25 rfl (by omega) hkc) ?_
       refine wl_val rfl (ex_len_slice rfl Try.underlying23 rfl) ?_
       refine wl_m ?_
       refine wl_nil (nrm_then ?_)
       refine cw_block ?_
       refine cw_loop (α := AlG2) (⟨0, kh1, kx1⟩) (fun x => [(71, .int .i64 (x.k : Nat))]) [(2, _), (9, _), (69, _), (70, _)] (fun x wr => Evo [] w wr ∧ (AlI2 s N t wr b2 b9 x)) (fun x => t.kids.length - x.k) ⟨rfl, trivial⟩ ⟨rfl, rfl, rfl, rfl, trivial⟩ ⟨hE152, ⟨by show 0 + 1 ≤ _; omega, hB154, hB150, alt_one hj' hh1⟩⟩ ?_
       rintro ⟨k, h, x⟩ wr155 ⟨hV156, ⟨hk, hb2, hb9, hcd⟩⟩
       show CW _ _ _ _ [(71, .int .i64 (k : Nat)), (2, _), (9, _), (69, _), (70, _)] _
       try dsimp only at hk
       try dsimp only at hb2
       try dsimp only at hb9
       try dsimp only at hcd
       refine cw_seq ?_
       refine cw_region ?_
       refine wl_val rfl (ex_lss rfl rfl) ?_
       refine wl_nil (nrm_then ?_)
       refine cw_seq ?_
       refine cw_if rfl (fun hc72 => ?_) (fun hc72 => ?_)
       ·skip
        have hj2 : k + 1 < t.kids.length := by omega
        obtain ⟨b3, o2, vs2, ha2, hb3, hvl2, hc2, hrk2⟩ := e1 (k + 1) hj2
        obtain ⟨m2, ra2, rc2, ka2, kc2, hm2, rfl, -⟩ := id hrk2.get
        obtain rfl : m2 = m1 := by omega
        have hek2 := eszs_le hj2
        have hkk2 : t.kids[k + 1].esz ≤ 9999 := by omega
        refine cw_skip (nrm_then ?_)
        refine cw_seq ?_
        refine cw_block ?_
        refine cw_seq ?_
        refine cw_region ?_
        refine wl_val rfl (ex_indexAddr (n := k) (by rw [if_neg (by omega), ha2]; rfl) rfl Try.elem23 (by omega)) ?_
        refine wl_val rfl (ex_loadA rfl Try.agg25 Try.size25 (vs := [_, _, _, _, _, _, _, _, _]) rfl (by have h9 := hc2.evo hV156 (by simp); rwa [show o2 + (k + 1) * 9 = o2 + 1 * 9 + k * 9 from by omega] at h9)) ?_
        refine wl_alloc rfl Try.zero25 fun b11 w157 hB158 hs159 hw160 => ?_
        have hsz_b11 := hs159
        have hA161 := Apart.new (Lt.blk hb2) hs159
        have hA162 := Apart.new (Lt.blk hb9) hs159
        have hG163 := Ge.new hV156 hs159
        have hE164 := hV156.then hw160
        have hB165 := hw160.blk0 hb2
        have hB166 := hw160.blk0 hb9
        refine wl_storeBlk rfl rfl Try.size25 hB158 rfl rfl ⟨by first | rfl | assumption, by first | rfl | assumption, by first | rfl | assumption, by first | rfl | assumption, by first | rfl | assumption, by first | rfl | assumption, by first | rfl | assumption, by first | rfl | assumption, by first | rfl | assumption, trivial⟩ fun w167 hB168 hw169 => ?_
        have hE170 := hE164.step hw169 hG163.mem1
        have hB171 := hw169.blk hB165 hA161.nmem1
        have hB172 := hw169.blk hB166 hA162.nmem1
        try simp only [List.setIfInBounds_toArray, List.set_cons_zero, List.set_cons_succ, Nat.reduceAdd, Nat.zero_add, Nat.add_zero] at hB168
        refine wl_nil (nrm_then ?_)
        refine cw_seq ?_
        refine cw_region ?_
        refine wl_val rfl (ex_loadBlk rfl Try.agg25 Try.size25 hB168 rfl) ?_
        refine wl_call1 (vs := [_]) Try.goes26 rfl (ih (RRx.pers _ _ _ _ _ _ (hE170.mono (fun b hb => by cases hb)) hrk2) (hg.kid _ (List.getElem_mem hj2)) hkk2) rfl ?_
        rintro _ w173 ⟨kh2, kx2, rfl, hh2, hw174⟩
        have hE175 := hE170.then hw174
        have hB176 := hw174.blk0 hB171
        have hB177 := hw174.blk0 hB172
        have hB178 := hw174.blk0 hB168
        refine wl_alloc rfl Try.zero68 fun b12 w179 hB180 hs181 hw182 => ?_
        have hsz_b12 := hs181
        have hA183 := Apart.new (Lt.blk hB176) hs181
        have hA184 := Apart.new (Lt.blk hB177) hs181
        have hA185 := Apart.new (Lt.blk hB178) hs181
        have hG186 := Ge.new hE175 hs181
        have hE187 := hE175.then hw182
        have hB188 := hw182.blk0 hB176
        have hB189 := hw182.blk0 hB177
        have hB190 := hw182.blk0 hB178
        refine wl_storeBlk rfl rfl Try.size68 hB180 rfl rfl ⟨by first | rfl | assumption, by first | rfl | assumption, trivial⟩ fun w191 hB192 hw193 => ?_
        have hE194 := hE187.step hw193 hG186.mem1
        have hB195 := hw193.blk hB188 hA183.nmem1
        have hB196 := hw193.blk hB189 hA184.nmem1
        have hB197 := hw193.blk hB190 hA185.nmem1
        try simp only [List.setIfInBounds_toArray, List.set_cons_zero, List.set_cons_succ, Nat.reduceAdd, Nat.zero_add, Nat.add_zero] at hB192
        refine wl_nil (nrm_then ?_)
        refine cw_any (fun w0 w' => Evo [] w0 w') (by kernel_rfl) (fun w198 hw199 => ?_)
        have hE200 := hE194.then hw199
        have hB201 := hw199.blk0 hB195
        have hB202 := hw199.blk0 hB196
        have hB203 := hw199.blk0 hB192
        refine ae_take 0 rfl (by kernel_rfl) (by kernel_rfl) (by kernel_rfl) rfl (fun _ hS => ex_fieldAddr rfl Try.fld68_0) (Evo.refl [] w198) ?_
        refine ae_take 1 rfl (by kernel_rfl) (by kernel_rfl) (by kernel_rfl) rfl (fun _ hS => ex_load1 rfl Try.agg9 (cell_nth (hS.blk0 hB202) rfl)) (Evo.refl [] w198) ?_
        refine ae_take 2 rfl (by kernel_rfl) (by kernel_rfl) (by kernel_rfl) rfl (fun _ hS => ex_fieldAddr rfl Try.fld68_0) (Evo.refl [] w198) ?_
        refine ae_take 3 rfl (by kernel_rfl) (by kernel_rfl) (by kernel_rfl) rfl (fun _ hS => ex_load1 rfl Try.agg9 (cell_nth (hS.blk0 hB203) rfl)) (Evo.refl [] w198) ?_
        refine ae_take 5 rfl (by kernel_rfl) (by kernel_rfl) (by kernel_rfl) rfl (fun _ hS => ex_fieldAddr rfl Try.fld68_1) (Evo.refl [] w198) ?_
        refine ae_take 6 rfl (by kernel_rfl) (by kernel_rfl) (by kernel_rfl) rfl (fun _ hS => ex_load1 rfl Try.agg4 (cell_nth (hS.blk0 hB202) rfl)) (Evo.refl [] w198) ?_
        refine ae_loud [4] (by kernel_rfl) rfl ⟨?_, trivial⟩
        refine a_step rfl ?_
        refine wl_call1 (vs := [_, _]) Try.goes47 rfl (common_ok h kh2 (by have h8 := eszs_tk t.kids (k + 1); have h9 := hcd.2; have h7 : h.size ≤ 4 * eszs (t.kids.take (k + 1)) := hcd.2; omega) (by have h9 := hh2.2.1; omega)) rfl ?_
        rintro _ w204 ⟨e, rfl, he1, he2, he3, he4, hw205⟩
        have hE206 := hE200.then hw205
        have hE207 := (Evo.refl [] w198).then hw205
        have hB208 := hw205.blk0 hB201
        have hB209 := hw205.blk0 hB202
        have hB210 := hw205.blk0 hB203
        refine wl_nil (ae_next (.inl hE207) ?_)
        refine ae_take 7 rfl (by kernel_rfl) (by kernel_rfl) (by kernel_rfl) rfl (fun _ hS => ex_move rfl) hE207 ?_
        refine ae_splitb (t := 84) rfl (fun hs84 => ?_) (fun hs84 => ?_)
        ·skip
         refine ae_takeG 8 rfl rfl rfl rfl rfl (by kernel_rfl) (by kernel_rfl) (by kernel_rfl) rfl (fun _ hS => ex_fieldAddr rfl Try.fld68_1) hE207 ?_
         refine ae_takeG 9 rfl rfl rfl rfl rfl (by kernel_rfl) (by kernel_rfl) (by kernel_rfl) rfl (fun _ hS => ex_load1 rfl Try.agg4 (cell_nth (hS.blk0 hB203) rfl)) hE207 ?_
         refine ae_take 10 rfl (by kernel_rfl) (by kernel_rfl) (by kernel_rfl) rfl (fun _ hS => ex_pick_t rfl rfl) hE207 ?_
         refine ae_take 11 rfl (by kernel_rfl) (by kernel_rfl) (by kernel_rfl) rfl (fun _ hS => ex_move rfl) hE207 ?_
         refine ae_splitb (t := 88) rfl (fun hs88 => ?_) (fun hs88 => ?_)
         ·skip
          refine ae_takeG 12 rfl rfl rfl rfl rfl (by kernel_rfl) (by kernel_rfl) (by kernel_rfl) rfl (fun _ hS => ex_fieldAddr rfl Try.fld68_0) hE207 ?_
          refine ae_takeG 13 rfl rfl rfl rfl rfl (by kernel_rfl) (by kernel_rfl) (by kernel_rfl) rfl (fun _ hS => ex_load1 rfl Try.agg9 (cell_nth (hS.blk0 hB202) rfl)) hE207 ?_
          refine ae_takeG 14 rfl rfl rfl rfl rfl (by kernel_rfl) (by kernel_rfl) (by kernel_rfl) rfl (fun _ hS => ex_fieldAddr rfl Try.fld68_0) hE207 ?_
          refine ae_takeG 15 rfl rfl rfl rfl rfl (by kernel_rfl) (by kernel_rfl) (by kernel_rfl) rfl (fun _ hS => ex_load1 rfl Try.agg9 (cell_nth (hS.blk0 hB203) rfl)) hE207 ?_
          refine ae_takeG 16 rfl rfl rfl rfl rfl (by kernel_rfl) (by kernel_rfl) (by kernel_rfl) rfl (fun _ hS => ex_eqs rfl rfl) hE207 ?_
          refine ae_take 17 rfl (by kernel_rfl) (by kernel_rfl) (by kernel_rfl) rfl (fun _ hS => ex_pick_t rfl rfl) hE207 ?_
          refine ae_take 18 rfl (by kernel_rfl) (by kernel_rfl) (by kernel_rfl) rfl (fun _ hS => ex_build (vs := [(0, _), (1, _)]) Try.build68 rfl (cells := [_, _]) rfl) hE207 ?_
          refine ae_loud [19] (by kernel_rfl) rfl ⟨?_, trivial⟩
          refine a_step rfl ?_
          refine wl_storeBlk rfl rfl Try.size68 hB209 rfl rfl ⟨by first | rfl | assumption, by first | rfl | assumption, trivial⟩ fun w211 hB212 hw213 => ?_
          have hE214 := hE206.step hw213 hG145.mem1
          have hB216 := hw213.blk hB208 hA144.nmem1
          have hB217 := hw213.blk hB210 hA184.symm.nmem1
          try simp only [List.setIfInBounds_toArray, List.set_cons_zero, List.set_cons_succ, Nat.reduceAdd, Nat.zero_add, Nat.add_zero] at hB212
          refine wl_nil (ae_next (.inr (by kernel_rfl)) ?_)
          refine ae_done (by kernel_rfl) (nrm_block (nrm_then ?_))
          refine cw_region ?_
          refine wl_val rfl (ex_add_i64 rfl rfl (by omega) (by omega)) ?_
          refine wl_m ?_
          refine wl_nil (nrm_same ?_)
          refine ⟨⟨k + 1, h.extract 0 e, x && kx2 && decide (h = kh2)⟩, ?_, ⟨rfl, trivial⟩, ⟨rfl, rfl, rfl, rfl, trivial⟩, hE214, ?_⟩
          · (try dsimp only); omega
          ·skip
           try dsimp only
           refine ⟨by show k + 1 + 1 ≤ _; omega, hB216, ?_, alt_step hU hj2 hcd hh2 he1 he2 he3 he4⟩
           have h9 := hB212
           first | (rw [hs84, hs88, Bool.true_and, Bool.true_and]; exact h9) | (rw [hs84, hs88, Bool.true_and, Bool.false_and]; exact h9) | (rw [hs84, Bool.false_and, Bool.false_and]; exact h9)
         ·skip
          refine ae_takeN 12 rfl rfl rfl rfl rfl rfl (by kernel_rfl) (by kernel_rfl) (by kernel_rfl) rfl hE207 ?_
          refine ae_takeN 13 rfl rfl rfl rfl rfl rfl (by kernel_rfl) (by kernel_rfl) (by kernel_rfl) rfl hE207 ?_
          refine ae_takeN 14 rfl rfl rfl rfl rfl rfl (by kernel_rfl) (by kernel_rfl) (by kernel_rfl) rfl hE207 ?_
          refine ae_takeN 15 rfl rfl rfl rfl rfl rfl (by kernel_rfl) (by kernel_rfl) (by kernel_rfl) rfl hE207 ?_
          refine ae_takeN 16 rfl rfl rfl rfl rfl rfl (by kernel_rfl) (by kernel_rfl) (by kernel_rfl) rfl hE207 ?_
          refine ae_take 17 rfl (by kernel_rfl) (by kernel_rfl) (by kernel_rfl) rfl (fun _ hS => ex_pick_f rfl rfl) hE207 ?_
          refine ae_take 18 rfl (by kernel_rfl) (by kernel_rfl) (by kernel_rfl) rfl (fun _ hS => ex_build (vs := [(0, _), (1, _)]) Try.build68 rfl (cells := [_, _]) rfl) hE207 ?_
          refine ae_loud [19] (by kernel_rfl) rfl ⟨?_, trivial⟩
          refine a_step rfl ?_
          refine wl_storeBlk rfl rfl Try.size68 hB209 rfl rfl ⟨by first | rfl | assumption, by first | rfl | assumption, trivial⟩ fun w218 hB219 hw220 => ?_
          have hE221 := hE206.step hw220 hG145.mem1
          have hB223 := hw220.blk hB208 hA144.nmem1
          have hB224 := hw220.blk hB210 hA184.symm.nmem1
          try simp only [List.setIfInBounds_toArray, List.set_cons_zero, List.set_cons_succ, Nat.reduceAdd, Nat.zero_add, Nat.add_zero] at hB219
          refine wl_nil (ae_next (.inr (by kernel_rfl)) ?_)
          refine ae_done (by kernel_rfl) (nrm_block (nrm_then ?_))
          refine cw_region ?_
          refine wl_val rfl (ex_add_i64 rfl rfl (by omega) (by omega)) ?_
          refine wl_m ?_
          refine wl_nil (nrm_same ?_)
          refine ⟨⟨k + 1, h.extract 0 e, x && kx2 && decide (h = kh2)⟩, ?_, ⟨rfl, trivial⟩, ⟨rfl, rfl, rfl, rfl, trivial⟩, hE221, ?_⟩
          · (try dsimp only); omega
          ·skip
           try dsimp only
           refine ⟨by show k + 1 + 1 ≤ _; omega, hB223, ?_, alt_step hU hj2 hcd hh2 he1 he2 he3 he4⟩
           have h9 := hB219
           first | (rw [hs84, hs88, Bool.true_and, Bool.true_and]; exact h9) | (rw [hs84, hs88, Bool.true_and, Bool.false_and]; exact h9) | (rw [hs84, Bool.false_and, Bool.false_and]; exact h9)
        ·skip
         refine ae_takeN 8 rfl rfl rfl rfl rfl rfl (by kernel_rfl) (by kernel_rfl) (by kernel_rfl) rfl hE207 ?_
         refine ae_takeN 9 rfl rfl rfl rfl rfl rfl (by kernel_rfl) (by kernel_rfl) (by kernel_rfl) rfl hE207 ?_
         refine ae_take 10 rfl (by kernel_rfl) (by kernel_rfl) (by kernel_rfl) rfl (fun _ hS => ex_pick_f rfl rfl) hE207 ?_
         refine ae_take 11 rfl (by kernel_rfl) (by kernel_rfl) (by kernel_rfl) rfl (fun _ hS => ex_move rfl) hE207 ?_
         refine ae_takeN 12 rfl rfl rfl rfl rfl rfl (by kernel_rfl) (by kernel_rfl) (by kernel_rfl) rfl hE207 ?_
         refine ae_takeN 13 rfl rfl rfl rfl rfl rfl (by kernel_rfl) (by kernel_rfl) (by kernel_rfl) rfl hE207 ?_
         refine ae_takeN 14 rfl rfl rfl rfl rfl rfl (by kernel_rfl) (by kernel_rfl) (by kernel_rfl) rfl hE207 ?_
         refine ae_takeN 15 rfl rfl rfl rfl rfl rfl (by kernel_rfl) (by kernel_rfl) (by kernel_rfl) rfl hE207 ?_
         refine ae_takeN 16 rfl rfl rfl rfl rfl rfl (by kernel_rfl) (by kernel_rfl) (by kernel_rfl) rfl hE207 ?_
         refine ae_take 17 rfl (by kernel_rfl) (by kernel_rfl) (by kernel_rfl) rfl (fun _ hS => ex_pick_f rfl rfl) hE207 ?_
         refine ae_take 18 rfl (by kernel_rfl) (by kernel_rfl) (by kernel_rfl) rfl (fun _ hS => ex_build (vs := [(0, _), (1, _)]) Try.build68 rfl (cells := [_, _]) rfl) hE207 ?_
         refine ae_loud [19] (by kernel_rfl) rfl ⟨?_, trivial⟩
         refine a_step rfl ?_
         refine wl_storeBlk rfl rfl Try.size68 hB209 rfl rfl ⟨by first | rfl | assumption, by first | rfl | assumption, trivial⟩ fun w225 hB226 hw227 => ?_
         have hE228 := hE206.step hw227 hG145.mem1
         have hB230 := hw227.blk hB208 hA144.nmem1
         have hB231 := hw227.blk hB210 hA184.symm.nmem1
         try simp only [List.setIfInBounds_toArray, List.set_cons_zero, List.set_cons_succ, Nat.reduceAdd, Nat.zero_add, Nat.add_zero] at hB226
         refine wl_nil (ae_next (.inr (by kernel_rfl)) ?_)
         refine ae_done (by kernel_rfl) (nrm_block (nrm_then ?_))
         refine cw_region ?_
         refine wl_val rfl (ex_add_i64 rfl rfl (by omega) (by omega)) ?_
         refine wl_m ?_
         refine wl_nil (nrm_same ?_)
         refine ⟨⟨k + 1, h.extract 0 e, x && kx2 && decide (h = kh2)⟩, ?_, ⟨rfl, trivial⟩, ⟨rfl, rfl, rfl, rfl, trivial⟩, hE228, ?_⟩
         · (try dsimp only); omega
         ·skip
          try dsimp only
          refine ⟨by show k + 1 + 1 ≤ _; omega, hB230, ?_, alt_step hU hj2 hcd hh2 he1 he2 he3 he4⟩
          have h9 := hB226
          first | (rw [hs84, hs88, Bool.true_and, Bool.true_and]; exact h9) | (rw [hs84, hs88, Bool.true_and, Bool.false_and]; exact h9) | (rw [hs84, Bool.false_and, Bool.false_and]; exact h9)
       ·skip
        refine cw_exit (ex_then (ex_then (ex_here (nrm_then ?_))))
        refine cw_seq ?_
        refine cw_region ?_
        refine wl_val rfl (ex_loadBlk rfl Try.agg68 Try.size68 hb9 rfl) ?_
        refine wl_storeBlk rfl rfl Try.size68 hb2 rfl rfl ⟨by first | rfl | assumption, by first | rfl | assumption, trivial⟩ fun w232 hB233 hw234 => ?_
        have hE235 := hV156.step hw234 hG13.mem1
        have hB236 := hw234.blk hb9 hA144.symm.nmem1
        try simp only [List.setIfInBounds_toArray, List.set_cons_zero, List.set_cons_succ, Nat.reduceAdd, Nat.zero_add, Nat.add_zero] at hB233
        refine wl_nil (nrm_then ?_)
        refine cw_ret (ret_block (ret_then (body_retC1 rfl (ResOk.cellA rfl Try.agg68 Try.size68 hB233 rfl) ?_)))
        exact ⟨h, x, rfl, alt_all (by omega) (by omega) hcd, hE235⟩
      ·skip
       refine cw_seq ?_
       refine cw_region ?_
       refine wl_val rfl (ex_eql rfl rfl) ?_
       refine wl_a ?_
       refine wl_nil (nrm_then ?_)
       refine cw_if rfl (fun hc98 => ?_) (fun hc98 => ?_)
       ·skip
        refine cw_seq ?_
        refine cw_region ?_
        refine wl_val rfl (ex_loadBlk rfl Try.agg25 Try.size25 hB15 rfl) ?_
        refine wl_call1 (vs := [_]) Try.goes48 rfl (hrep_step hU ih (RRx.pers _ _ _ _ _ _ (hE14.mono (fun b hb => by cases hb)) hx0) hg hl (by omega)) rfl ?_
        rintro _ w237 ⟨kh, kx, rfl, hh, hw238⟩
        have hE239 := hE14.then hw238
        have hB240 := hw238.blk0 hB15
        have hB241 := hw238.blk0 hB9
        refine wl_storeBlk rfl rfl Try.size68 hB241 rfl rfl ⟨by first | rfl | assumption, by first | rfl | assumption, trivial⟩ fun w242 hB243 hw244 => ?_
        have hE245 := hE239.step hw244 hG13.mem1
        have hB246 := hw244.blk hB240 hA12.nmem1
        try simp only [List.setIfInBounds_toArray, List.set_cons_zero, List.set_cons_succ, Nat.reduceAdd, Nat.zero_add, Nat.add_zero] at hB243
        refine wl_nil (nrm_then ?_)
        refine cw_ret (ret_block (ret_then (body_retC1 rfl (ResOk.cellA rfl Try.agg68 Try.size68 hB243 rfl) ?_)))
        exact ⟨kh, kx, rfl, hh, hE245⟩
       ·skip
        refine cw_skip (nrm_block (nrm_then ?_))
        refine cw_seq ?_
        refine cw_region ?_
        refine wl_val rfl (ex_build (vs := [(1, _)]) Try.build68 rfl (cells := [_, _]) rfl) ?_
        refine wl_storeBlk rfl rfl Try.size68 hB9 rfl rfl ⟨by first | rfl | assumption, by first | rfl | assumption, trivial⟩ fun w247 hB248 hw249 => ?_
        have hE250 := hE14.step hw249 hG13.mem1
        have hB251 := hw249.blk hB15 hA12.nmem1
        try simp only [List.setIfInBounds_toArray, List.set_cons_zero, List.set_cons_succ, Nat.reduceAdd, Nat.zero_add, Nat.add_zero] at hB248
        refine wl_nil (nrm_then ?_)
        refine cw_ret (body_retC1 rfl (ResOk.cellA rfl Try.agg68 Try.size68 hB248 rfl) ?_)
        exact ⟨nob, true, rfl, leaf_eps (by have := hn.kind1; have := hn.kind2; omega), hE250⟩


theorem ex_field0 {σ : Env} {w : World} {dst : Option Nat} {T : TypeId} {pos : String} {after : Array Edge} {g : Option (Nat × Bool)} {x : Operand} {h : ByteArray} {e : Bool} (hx : σ.ev x = some (.agg #[.string h, .bool e])) :
    Ex Try.prog σ ⟨dst, .field 68 x 0, T, pos, after, g⟩ w (.string h) w := fun ρ hρ => by
  have h1 : (Instr.field 68 (.agg #[.string h, .bool e]) 0).run Try.prog w = .ok (.string h) w := by kernel_rfl
  simp only [execOp, hρ x _ hx]
  simp [h1]

theorem head_ok {s : ByteArray} {N : Nat} (hU : Utf s N) : ∀ {n : Nat} {X : List Nat} {w : World} {vs : List Value} {t : Rx} (hx : RRx n X w vs t) (hg : Good t) (hl : t.esz ≤ 9999), Calls Try.prog 26 #[.agg vs.toArray] w (Ret fun v w' => ∃ h ex, v = .agg #[.string h, .bool ex] ∧ HOf s N t h ex ∧ Evo [] w w')
  | 0, X, w, vs, t, hx, hg, hl => hx.elim
  | n + 1, X, w, vs, t, hx, hg, hl => head_step (n := n) hU (fun hx hg hl => head_ok hU hx hg hl) hx hg hl

theorem prefix_ok {s : ByteArray} {N n : Nat} (hU : Utf s N) {w : World} {vs : List Value} {t : Rx} (hx : RRx n [] w vs t) :
    Calls Try.prog 13 #[.agg vs.toArray] w (Ret fun v w' => ∃ h, v = .string h ∧ ((¬ t.Ok ∨ 10000 < t.esz + 1) → h = nob) ∧ (t.Ok → t.esz + 1 ≤ 10000 → ∃ ex, HOf s N t h ex) ∧ Evo [] w w') := by
  have hx0 := hx
  obtain ⟨m, ra, rc, ka, kc, hm, rfl, hrg, hk, bl1, bl2, bl3⟩ := hx.get
  refine calls_of_cw (N := 15) Try.func13 rfl rfl rfl ?_
  refine cw_seq ?_
  refine cw_region ?_
  refine wl_boxA rfl rfl fun b1 w2 hB3 hs4 hw5 => ?_
  have hG6 := Ge.new (Evo.refl [] w) hs4
  have hE7 := (Evo.refl [] w).then hw5
  refine wl_a ?_
  refine wl_nil (nrm_then ?_)
  refine cw_seq ?_
  refine cw_seq ?_
  refine cw_region ?_
  refine wl_val rfl (ex_loadBlk rfl Try.agg25 Try.size25 hB3 rfl) ?_
  refine wl_call1 (vs := [_]) Try.goes15 rfl (Size_ok (RRx.pers _ _ _ _ _ _ hE7 hx0)) rfl ?_
  rintro _ w8 ⟨sz, rfl, hsz, hw9⟩
  have hE10 := hE7.then hw9
  have hB11 := hw9.blk0 hB3
  refine wl_a ?_
  refine wl_nil (nrm_then ?_)
  refine cw_seq ?_
  refine cw_region ?_
  refine wl_m ?_
  refine wl_val rfl (ex_eql rfl rfl) ?_
  refine wl_m ?_
  refine wl_split (t := 8) rfl (fun hs8 => ?_) (fun hs8 => ?_)
  ·skip
   refine wl_n ?_
   refine wl_n ?_
   refine wl_pt ?_
   refine wl_nil (nrm_then ?_)
   refine cw_true rfl ?_
   refine cw_seq ?_
   refine cw_region ?_
   refine wl_a ?_
   refine wl_nil (nrm_then ?_)
   refine cw_ret (ret_then (body_ret1 rfl rfl ?_))
   exact ⟨nob, rfl, fun _ => rfl, fun h1 h2 => (by have := hsz.1 h1; omega), hE10⟩
  ·skip
   refine wl_g ?_
   refine wl_m ?_
   refine wl_g ?_
   refine wl_val rfl (ex_gtr rfl rfl) ?_
   refine wl_pf ?_
   refine wl_nil (nrm_then ?_)
   refine cw_if rfl (fun hc11 => ?_) (fun hc11 => ?_)
   ·skip
    refine cw_seq ?_
    refine cw_region ?_
    refine wl_a ?_
    refine wl_nil (nrm_then ?_)
    refine cw_ret (ret_then (body_ret1 rfl rfl ?_))
    exact ⟨nob, rfl, fun _ => rfl, fun h1 h2 => (by have := hsz.1 h1; omega), hE10⟩
   ·skip
    refine cw_skip (nrm_then ?_)
    refine cw_seq ?_
    refine cw_region ?_
    have hok : t.Ok := Classical.byContradiction fun h => (by have := hsz.2 h; omega)
    have hszE : t.esz + 1 ≤ 10000 := by have := hsz.1 hok; omega
    refine wl_val rfl (ex_loadBlk rfl Try.agg25 Try.size25 hB11 rfl) ?_
    refine wl_call1 (vs := [_]) Try.goes26 rfl (head_ok hU (RRx.pers _ _ _ _ _ _ hE10 hx0) hok.good (size_lt2 hszE)) rfl ?_
    rintro _ w12 ⟨kh, kx, rfl, hh, hw13⟩
    have hE14 := hE10.then hw13
    have hB15 := hw13.blk0 hB11
    refine wl_val rfl (ex_field0 rfl) ?_
    refine wl_a ?_
    refine wl_nil (nrm_then ?_)
    refine cw_ret (body_ret1 rfl rfl ?_)
    exact ⟨kh, rfl, fun h => (by rcases h with h | h; exact (h hok).elim; omega), fun _ _ => ⟨kx, hh⟩, hE14⟩

end Go.Proofs.Ytgboffefbpligaa
