/- RxprogTells: every Hollow, Words and Prefix, of any tree, is the document's; for every tree. -/
import Derived.Test.YtgnpldackjbdjaaGreatTellsE
namespace Go.Proofs.YtgnpldackjbdjaaGreat
open Go.Proofs
open Go.W Go.RowKit
attribute [local irreducible] Decidable.decide
set_option linter.unusedSimpArgs false
set_option linter.unusedVariables false
theorem Tryz.goes45 : Goes Tryz.prog 45 := ⟨_, Tryz.func45, by kernel_rfl, by kernel_rfl⟩
theorem Tryz.goes92 : Goes Tryz.prog 92 := ⟨_, Tryz.func92, by kernel_rfl, by kernel_rfl⟩
theorem Tryz.goes93 : Goes Tryz.prog 93 := ⟨_, Tryz.func93, by kernel_rfl, by kernel_rfl⟩
end Go.Proofs.YtgnpldackjbdjaaGreat
namespace Go.W
section
variable {P : Program} {σ : Env} {w : World} {dst : Option Nat} {T : TypeId} {pos : String} {after : Array Edge} {g : Option (Nat × Bool)}
theorem ex_pickTu {c x y : Operand} {v u : Value} (hc : σ.ev c = some (.bool true)) (hx : σ.ev x = some v) (he : v = u) : Ex P σ ⟨dst, .pick c x y, T, pos, after, g⟩ w u w := by subst he; exact ex_pick_t hc hx
theorem ex_pickFu {c x y : Operand} {v u : Value} (hc : σ.ev c = some (.bool false)) (hx : σ.ev y = some v) (he : v = u) : Ex P σ ⟨dst, .pick c x y, T, pos, after, g⟩ w u w := by subst he; exact ex_pick_f hc hx
end
end Go.W
namespace Go.Proofs.YtgnpldackjbdjaaGreat
open Go.Proofs Go.W Go.RowKit
attribute [local irreducible] Decidable.decide
set_option linter.unusedSimpArgs false
set_option linter.unusedVariables false
structure RcX (x y : List Int) (k : Nat) : Prop where
  hk : k ≤ x.length
  le : offs (txt x) k ≤ (txt y).size
  ext : (txt x).extract 0 (offs (txt x) k) = (txt y).extract 0 (offs (txt x) k)
theorem rc_zero (x y : List Int) : RcX x y 0 := ⟨Nat.zero_le _, Nat.zero_le _, by simp [offs]⟩
theorem rc_lt {x : List Int} (hx : VR x) {k : Nat} (hk : k ≤ x.length) (h : offs (txt x) k < (txt x).size) : k < x.length := by
  by_cases e : k = x.length
  · subst e; have := (utf_txt hx).1.1; omega
  · omega
theorem rc_pos {x : List Int} (hx : VR x) {k : Nat} (hk : k < x.length) : 0 < (nextR (txt x) (offs (txt x) k)).2 := (utf_txt hx).1.2 k hk
theorem rc_ne {x y : List Int} (hx : VR x) {k : Nat} (hk : k < x.length) (h : (txt y).size ≤ offs (txt x) k) : (nextR (txt y) (offs (txt x) k)).1 ≠ (nextR (txt x) (offs (txt x) k)).1 := by
  rw [next_out h]
  have h1 := (next_ext (rc_pos hx hk)).2.2
  intro e
  have h2 := h1.1
  rw [← e] at h2
  simp at h2
theorem rc_step {x y : List Int} {k : Nat} (h : RcX x y k) (hk : k < x.length) (he : (nextR (txt x) (offs (txt x) k)).1 = (nextR (txt y) (offs (txt x) k)).1) : RcX x y (k + 1) := by
  have hs := same_step h.ext (offs_le _ _) h.le he.symm
  exact ⟨hk, hs.2.2.1, hs.2.2.2⟩
theorem flat_snoc (h : List Int) (j : Nat) : (List.replicate (j + 1) h).flatten = (List.replicate j h).flatten ++ h := by
  rw [List.replicate_succ', List.flatten_append]; simp
structure SmI (l m : List ByteArray) (k : Nat) : Prop where
  hk : k ≤ l.length
  eq : ∀ j (h : j < l.length) (h2 : j < m.length), j < k → l[j] = m[j]
theorem sm_end {l m : List ByteArray} {k : Nat} (h : SmI l m k) (hk : l.length ≤ k) (hl : l.length = m.length) : l = m := List.ext_getElem hl fun j h1 h2 => h.eq j h1 h2 (by omega)
theorem rcommon_ok {w : World} {x y : List Int} (hx : VR x) (hy : VR y) (h1 : (txt x).size ≤ 1000000) (h2 : (txt y).size ≤ 1000000) :
    Calls Tryz.prog 92 #[.string (txt x), .string (txt y)] w (Ret fun v w' => v = .string (txt (cpre x y)) ∧ Evo [] w w') := by
  refine calls_of_cw (N := 45) Tryz.func92 rfl rfl rfl ?_; refine cw_seq ?_; refine cw_region ?_; refine wl_a ?_; refine wl_nil (nrm_then ?_); refine cw_seq ?_; refine cw_region ?_; refine wl_a ?_; refine wl_nil (nrm_then ?_); refine cw_seq ?_; refine cw_block ?_; refine cw_loop (α := Nat) (0) (fun k => [(5, .int .i64 ((offs (txt x) k : Nat) : Int))]) [(0, _), (1, _), (4, _)] (fun k wr => Evo [] w wr ∧ (RcX x y k)) (fun k => x.length - k) ⟨rfl, trivial⟩ ⟨rfl, rfl, rfl, trivial⟩ ⟨Evo.refl _ _, rc_zero x y⟩ ?_; rintro k wr1 ⟨hV2, hr⟩; show CW _ _ _ _ [(5, _), (0, _), (1, _), (4, _)] _; have hE3 := (Evo.refl [] w).then hV2; have hle := hr.le; refine cw_seq ?_; refine cw_seq ?_; refine cw_region ?_; refine wl_m ?_; refine wl_m ?_; refine wl_val rfl (ex_len_str rfl Tryz.underlying9 rfl) ?_; refine wl_val rfl (ex_lss rfl rfl) ?_; refine wl_m ?_; refine wl_split (t := 14) rfl (fun hs14 => ?_) (fun hs14 => ?_)
  ·skip
   have hk' := rc_lt hx hr.hk (by omega); have hpos := rc_pos hx hk'; have hol := offs_le (txt x) k; refine wl_g ?_; refine wl_m ?_; refine wl_g ?_; refine wl_m ?_; refine wl_g ?_; refine wl_val rfl (ex_len_str rfl Tryz.underlying9 rfl) ?_; refine wl_g ?_; refine wl_val rfl (ex_lss rfl rfl) ?_; refine wl_pt ?_; refine wl_nil (nrm_then ?_); refine cw_if rfl (fun hc19 => ?_) (fun hc19 => ?_)
   ·skip
    refine cw_skip (nrm_then ?_); refine cw_block ?_; refine cw_seq ?_; refine cw_region ?_; refine wl_m ?_; refine wl_m ?_; refine wl_call1 (vs := [_, _]) Tryz.goes137 rfl (refNext_ok (txt x) (offs (txt x) k) (by omega) (by omega)) rfl ?_; rintro _ w4 ⟨rfl, hw5⟩; have hE6 := hE3.then hw5; have hE7 := hV2.then hw5; refine wl_m ?_; refine wl_val rfl (ex_extract rfl rfl) ?_; refine wl_val rfl (ex_extract rfl rfl) ?_; refine wl_a ?_; refine wl_a ?_; refine wl_nil (nrm_then ?_); refine cw_seq ?_; refine cw_region ?_; refine wl_m ?_; refine wl_m ?_; refine wl_call1 (vs := [_, _]) Tryz.goes137 rfl (refNext_ok (txt y) (offs (txt x) k) (by omega) (by omega)) rfl ?_; rintro _ w8 ⟨rfl, hw9⟩; have hE10 := hE6.then hw9; have hE11 := hE7.then hw9; refine wl_m ?_; refine wl_val rfl (ex_extract rfl rfl) ?_; refine wl_val rfl (ex_extract rfl rfl) ?_; refine wl_a ?_; refine wl_a ?_; refine wl_nil (nrm_then ?_); refine cw_seq ?_; refine cw_seq ?_; refine cw_region ?_; refine wl_m ?_; refine wl_m ?_; refine wl_val rfl (ex_neq rfl rfl) ?_; refine wl_m ?_; refine wl_split (t := 35) rfl (fun hs35 => ?_) (fun hs35 => ?_)
    ·skip
     refine wl_n ?_; refine wl_n ?_; refine wl_pt ?_; refine wl_nil (nrm_then ?_); refine cw_true rfl ?_; refine cw_exit (ex_then (ex_past rfl (ex_then (ex_here (nrm_then ?_))))); refine cw_seq ?_; refine cw_region ?_; refine wl_m ?_; refine wl_m ?_; refine wl_val rfl (ex_ssubTo (h := offs (txt x) k) rfl rfl Tryz.underlying9 rfl (offs_le _ _)) ?_; refine wl_a ?_; refine wl_nil (nrm_then ?_); refine cw_ret (body_ret1 rfl rfl ?_); exact ⟨congrArg Value.string (comm_any hx hy rfl hr.le hr.ext (fun _ => .inr (fun e => hs35 e.symm))), hE10⟩
    ·skip
     have hq : (nextR (txt x) (offs (txt x) k)).1 = (nextR (txt y) (offs (txt x) k)).1 := by omega
     refine wl_g ?_; refine wl_m ?_; refine wl_g ?_; refine wl_val rfl (ex_eql rfl rfl) ?_; refine wl_pf ?_; refine wl_nil (nrm_then ?_); refine cw_if rfl (fun hc38 => ?_) (fun hc38 => ?_)
     ·skip
      exfalso; omega
     ·skip
      refine cw_skip (nrm_then ?_); refine cw_region ?_; have hst := rc_step hr hk' hq; have hol2 := offs_le (txt x) (k + 1); have e0 : offs (txt x) (k + 1) = offs (txt x) k + (nextR (txt x) (offs (txt x) k)).2 := rfl; refine wl_m ?_; refine wl_m ?_; refine wl_val rfl (ex_add_i64 rfl rfl (by omega) (by omega)) ?_; rw [show ((offs (txt x) k : Nat) : Int) + ((nextR (txt x) (offs (txt x) k)).2 : Nat) = ((offs (txt x) (k + 1) : Nat) : Int) from by omega]; refine wl_a ?_; refine wl_nil (nrm_block (nrm_same ?_)); refine ⟨k + 1, ?_, ⟨rfl, trivial⟩, ⟨rfl, rfl, rfl, trivial⟩, hE11, ?_⟩
      · omega
      ·skip
       exact hst
   ·skip
    refine cw_exit (ex_then (ex_then (ex_here (nrm_then ?_)))); refine cw_seq ?_; refine cw_region ?_; refine wl_m ?_; refine wl_m ?_; refine wl_val rfl (ex_ssubTo (h := offs (txt x) k) rfl rfl Tryz.underlying9 rfl (offs_le _ _)) ?_; refine wl_a ?_; refine wl_nil (nrm_then ?_); refine cw_ret (body_ret1 rfl rfl ?_); exact ⟨congrArg Value.string (comm_any hx hy rfl hr.le hr.ext (fun _ => .inr (rc_ne hx hk' (by omega)))), hE3⟩
  ·skip
   refine wl_n ?_; refine wl_n ?_; refine wl_n ?_; refine wl_n ?_; refine wl_pf ?_; refine wl_nil (nrm_then ?_); refine cw_false rfl ?_; refine cw_exit (ex_then (ex_then (ex_here (nrm_then ?_)))); refine cw_seq ?_; refine cw_region ?_; refine wl_m ?_; refine wl_m ?_; refine wl_val rfl (ex_ssubTo (h := offs (txt x) k) rfl rfl Tryz.underlying9 rfl (offs_le _ _)) ?_; refine wl_a ?_; refine wl_nil (nrm_then ?_); refine cw_ret (body_ret1 rfl rfl ?_)
   exact ⟨congrArg Value.string (comm_any hx hy rfl hr.le hr.ext (fun _ => .inl (by have := offs_le (txt x) k; omega))), hE3⟩
structure PcG where
  k : Nat
  b : List Int
structure PcI (t : Rx) (x : PcG) : Prop where
  hk : x.k ≤ t.kids.length
  eq : headC (t.kids.drop x.k) x.b = headC t.kids []
  len : x.b.length ≤ eszs (t.kids.take x.k)
structure PaG where
  k : Nat
  h : List Int
  x : Bool
structure PaI (t : Rx) (y : PaG) : Prop where
  h1 : 1 ≤ y.k
  hk : y.k ≤ t.kids.length
  vr : VR y.h
  eq : headA (t.kids.drop y.k) (y.h, y.x) = headB t.kids
  len : y.h.length ≤ eszs t.kids
abbrev hp (h : List Int × Bool) : Value := .tuple #[.string (txt h.1), .bool h.2]
theorem hp_mk {a : ByteArray} {b : Bool} {h : List Int × Bool} (e1 : a = txt h.1) (e2 : b = h.2) : Value.tuple #[.string a, .bool b] = hp h := by rw [e1, e2]
theorem hp_lit {t : Rx} (hk : t.kind = 2) : (IsR t.r → hp (headR t) = .tuple #[.string (bstr (formB t.r)), .bool true]) ∧ (¬ IsR t.r → hp (headR t) = .tuple #[.string nob, .bool false]) := by
  rw [headR_eq, if_pos hk]
  constructor
  · intro h; rw [if_pos h]; simp [hp, txt, frm]
  · intro h; rw [if_neg h]; rfl
set_option maxHeartbeats 4000000 in
theorem rrep_step {n : Nat} (ih : ∀ {X : List Nat} {w : World} {vs : List Value} {t : Rx} (hx : RRx n X w vs t) (hg : Good t) (hl : t.esz ≤ 9999), Calls Tryz.prog 45 #[.agg vs.toArray] w (Ret fun v w' => v = .tuple #[.string (txt (headR t).1), .bool (headR t).2] ∧ Evo [] w w')) {X : List Nat} {w : World} {vs : List Value} {t : Rx} (hx : RRx (n + 1) X w vs t) (hg : Good t) (hl : t.esz ≤ 9999) (h6 : t.kind = 6) : Calls Tryz.prog 93 #[.agg vs.toArray] w (Ret fun v w' => v = .tuple #[.string (txt (headR t).1), .bool (headR t).2] ∧ Evo [] w w') := by
  have hx0 := hx; obtain ⟨m, ra, rc, ka, kc, hm, rfl, hrg, hk, bl1, bl2, bl3⟩ := hx.get
  obtain rfl : m = n := by omega
  obtain ⟨_, _, hke, hkc, e1⟩ := hk; cases hke; have hn := (nodeP_iff t).1 hg.node; have g6 := hn.rep1 h6; have g62 := hn.rep2 h6; have g63 := hn.rep3 h6
  have hl1 : t.kids.length = 1 := by have h1 := hn.rep4; omega
  have hj' : 0 < t.kids.length := by omega
  have hvr := headR_vr t.kids[0]; have hsz := head_sz (hg.kid _ (List.getElem_mem hj')); have he1 := eszs_one hl1; refine calls_of_cw (N := 47) Tryz.func93 rfl rfl rfl ?_; refine cw_seq ?_; refine cw_region ?_; refine wl_boxA rfl rfl fun b1 w1 hB2 hs3 hw4 => ?_; have hsz_b1 := hs3; have hG5 := Ge.new (Evo.refl [] w) hs3; have hE6 := (Evo.refl [] w).then hw4; refine wl_a ?_; refine wl_a ?_; refine wl_nil (nrm_then ?_); refine cw_seq ?_; refine cw_seq ?_; refine cw_region ?_; refine wl_val rfl (ex_fieldAddr rfl Tryz.fld25_4) ?_; refine wl_val rfl (ex_load1 rfl Tryz.agg3 (cell_nth hB2 rfl)) ?_; refine wl_val rfl (ex_eql rfl rfl) ?_; refine wl_nil (nrm_then ?_); refine cw_if rfl (fun hc10 => ?_) (fun hc10 => ?_)
  ·skip
   refine cw_seq ?_; refine cw_region ?_; refine wl_a ?_; refine wl_a ?_; refine wl_nil (nrm_then ?_); refine cw_ret (ret_then (body_ret2 rfl rfl rfl ?_)); refine ⟨?_, hE6⟩
   show _ = hp (headR t); rw [hv_rep h6 hj', repH, if_pos (by omega)]; rfl
  ·skip
   refine cw_skip (nrm_then ?_); refine cw_seq ?_; refine cw_region ?_; obtain ⟨b5, o1, vs1, ha1, hb1, hvl1, hc1, hrk⟩ := e1 0 hj'; obtain ⟨m1, ra1, rc1, ka1, kc1, rfl, rfl, -⟩ := id hrk.get; have hkz := rep_kid h6 g6 (by omega) (by omega)
   have hkk : t.kids[0].esz ≤ 9999 := by omega
   refine wl_val rfl (ex_fieldAddr rfl Tryz.fld25_8) ?_; refine wl_val rfl (ex_load1 rfl Tryz.agg23 (cell_nth hB2 rfl)) ?_
   refine wl_val rfl (ex_indexAddrZ (n := 0) (by rw [ha1]; rfl) rfl rfl Tryz.elem23 (by omega)) ?_
   refine wl_val rfl (ex_loadA rfl Tryz.agg25 Tryz.size25 (vs := [_, _, _, _, _, _, _, _, _]) rfl (hc1.evo hE6 (by simp))) ?_; refine wl_call1 (vs := [_]) Tryz.goes45 rfl (ih (RRx.pers _ _ _ _ _ _ (hE6.mono (fun b hb => by cases hb)) hrk) (hg.kid _ (List.getElem_mem hj')) hkk) rfl ?_; rintro _ w7 ⟨rfl, hw8⟩; have hE9 := hE6.then hw8; have hB10 := hw8.blk0 hB2; refine wl_m ?_; refine wl_val rfl (ex_extract rfl rfl) ?_; refine wl_val rfl (ex_extract rfl rfl) ?_; refine wl_a ?_; refine wl_a ?_; refine wl_nil (nrm_then ?_); refine cw_seq ?_; refine cw_seq ?_; refine cw_region ?_; refine wl_val rfl (ex_fieldAddr rfl Tryz.fld25_3) ?_; refine wl_val rfl (ex_load1 rfl Tryz.agg3 (cell_nth hB10 rfl)) ?_; refine wl_val rfl (ex_eql rfl rfl) ?_; refine wl_nil (nrm_then ?_); refine cw_if rfl (fun hc21 => ?_) (fun hc21 => ?_)
   ·skip
    refine cw_seq ?_; refine cw_region ?_; refine wl_m ?_; refine wl_m ?_; refine wl_splitb (t := 23) rfl (fun hs23 => ?_) (fun hs23 => ?_)
    ·skip
     refine wl_g ?_; refine wl_m ?_; refine wl_g ?_; refine wl_val rfl (ex_eqs rfl rfl) ?_; refine wl_pt ?_; refine wl_a ?_; refine wl_a ?_; refine wl_nil (nrm_then ?_); refine cw_ret (ret_then (body_ret2 rfl rfl rfl ?_)); refine ⟨?_, hE9⟩
     show _ = hp (headR t); rw [hv_rep h6 hj', repH, if_neg (by omega), if_pos (by omega)]; exact hp_mk rfl (by rw [hs23, Bool.true_and]; exact decide_eq_decide.2 (txt_nob hvr))
    ·skip
     refine wl_n ?_; refine wl_n ?_; refine wl_pf ?_; refine wl_a ?_; refine wl_a ?_; refine wl_nil (nrm_then ?_); refine cw_ret (ret_then (body_ret2 rfl rfl rfl ?_)); refine ⟨?_, hE9⟩
     show _ = hp (headR t); rw [hv_rep h6 hj', repH, if_neg (by omega), if_pos (by omega)]; exact hp_mk rfl (by rw [hs23]; rfl)
   ·skip
    refine cw_skip (nrm_then ?_); refine cw_seq ?_; refine cw_seq ?_; refine cw_region ?_; refine wl_m ?_; refine wl_val rfl (ex_notb rfl) ?_; refine wl_nil (nrm_then ?_); refine cw_ifb rfl (fun hc28 => ?_) (fun hc28 => ?_)
    ·skip
     refine cw_seq ?_; refine cw_region ?_; refine wl_m ?_; refine wl_a ?_; refine wl_a ?_; refine wl_nil (nrm_then ?_); refine cw_ret (ret_then (body_ret2 rfl rfl rfl ?_)); refine ⟨?_, hE9⟩
     have hx9 : (headR t.kids[0]).2 = false := by simpa using hc28
     show _ = hp (headR t); rw [hv_rep h6 hj', repH, if_neg (by omega), if_neg (by omega), if_pos (.inl (by rw [hx9]; decide))]; exact hp_mk rfl hx9.symm
    ·skip
     refine cw_skip (nrm_then ?_); refine cw_seq ?_; refine cw_seq ?_; refine cw_region ?_; refine wl_m ?_; refine wl_val rfl (ex_eqs rfl rfl) ?_; refine wl_nil (nrm_then ?_); refine cw_if rfl (fun hc31 => ?_) (fun hc31 => ?_)
     ·skip
      refine cw_seq ?_; refine cw_region ?_; refine wl_a ?_; refine wl_a ?_; refine wl_nil (nrm_then ?_); refine cw_ret (ret_then (body_ret2 rfl rfl rfl ?_)); refine ⟨?_, hE9⟩
      have hx9 : (headR t.kids[0]).2 = true := by simpa using hc28
      have hn9 := (txt_nob hvr).1 hc31
      show _ = hp (headR t); rw [hv_rep h6 hj', repH, if_neg (by omega), if_neg (by omega), if_pos (.inr hn9)]; exact hp_mk hc31.symm hx9.symm
     ·skip
      refine cw_skip (nrm_then ?_); refine cw_seq ?_; refine cw_region ?_; refine wl_a ?_; refine wl_nil (nrm_then ?_); refine cw_seq ?_; refine cw_seq ?_; refine cw_region ?_; refine wl_a ?_; refine wl_nil (nrm_then ?_); refine cw_block ?_; refine cw_loop (α := Nat) (0) (fun j => [(7, .int .i64 (j : Nat)), (6, .string (txt (List.replicate j (headR t.kids[0]).1).flatten))]) [(1, _), (2, _), (3, _), (4, _)] (fun j wr => Evo [] w7 wr ∧ (j ≤ t.min.toNat)) (fun j => t.min.toNat - j) ⟨rfl, rfl, trivial⟩ ⟨rfl, rfl, rfl, rfl, trivial⟩ ⟨Evo.refl _ _, Nat.zero_le _⟩ ?_; rintro j wr11 ⟨hV12, hjn⟩; show CW _ _ _ _ [(7, _), (6, _), (1, _), (2, _), (3, _), (4, _)] _; have hE13 := hE9.then hV12; have hB14 := hV12.blk0 hB10; refine cw_seq ?_; refine cw_seq ?_; refine cw_region ?_; refine wl_m ?_; refine wl_val rfl (ex_fieldAddr rfl Tryz.fld25_3) ?_; refine wl_val rfl (ex_load1 rfl Tryz.agg3 (cell_nth hB14 rfl)) ?_; refine wl_val rfl (ex_lss rfl rfl) ?_; refine wl_nil (nrm_then ?_); refine cw_if rfl (fun hc35 => ?_) (fun hc35 => ?_)
      ·skip
       have hjm : j < t.min.toNat := by omega
       have hjs : (txt (List.replicate j (headR t.kids[0]).1).flatten).size + (txt (headR t.kids[0]).1).size ≤ 9223372036854775807 := by rw [txt_repl, brep_size]; have h9 := Nat.mul_le_mul (show j ≤ 1000 by omega) (show (txt (headR t.kids[0]).1).size ≤ 40000 by omega); omega
       refine cw_skip (nrm_then ?_); refine cw_seq ?_; refine cw_block ?_; refine cw_region ?_; refine wl_m ?_; refine wl_m ?_; refine wl_val rfl (ex_sadd rfl rfl hjs) ?_; rw [← txt_app, ← flat_snoc]; refine wl_a ?_; refine wl_nil (nrm_block (nrm_then ?_)); refine cw_region ?_; refine wl_m ?_; refine wl_val rfl (ex_add_i64 rfl rfl (by omega) (by omega)) ?_; refine wl_a ?_; refine wl_nil (nrm_same ?_); refine ⟨j + 1, ?_, ⟨rfl, rfl, trivial⟩, ⟨rfl, rfl, rfl, rfl, trivial⟩, hV12, ?_⟩
       · omega
       ·skip
        show j + 1 ≤ _; omega
      ·skip
       refine cw_exit (ex_then (ex_then (ex_here (nrm_then ?_)))); refine cw_seq ?_; refine cw_quiet (by kernel_rfl) (by kernel_rfl) ?_; refine ql_val rfl (fun _ hq16 => ex_move rfl) ?_; refine ql_val rfl (fun _ hq16 => ex_fieldAddr rfl Tryz.fld25_4) ?_; refine ql_val rfl (fun _ hq16 => ex_load1 rfl Tryz.agg3 (cell_nth (hq16.blk0 hB14) rfl)) ?_; refine ql_val rfl (fun _ hq16 => ex_fieldAddr rfl Tryz.fld25_3) ?_; refine ql_val rfl (fun _ hq16 => ex_load1 rfl Tryz.agg3 (cell_nth (hq16.blk0 hB14) rfl)) ?_; refine ql_val rfl (fun _ hq16 => ex_eql rfl rfl) ?_; refine ql_val rfl (fun _ hq16 => ex_assign rfl) ?_; refine ql_val rfl (fun _ hq16 => ex_assign rfl) ?_; refine ql_nil (fun wq15 hq16 => nrm_then ?_); have hE17 := hE13.then hq16; have hE18 := hV12.then hq16; have hB19 := hq16.blk0 hB14; refine cw_ret (body_ret2 rfl rfl rfl ?_); refine ⟨?_, hE17⟩
       obtain rfl : j = t.min.toNat := by omega
       have hx9 : (headR t.kids[0]).2 = true := by simpa using hc28
       show _ = hp (headR t); rw [hv_rep h6 hj', repH, if_neg (by omega), if_neg (by omega), if_neg (fun h => h.elim (fun h => h hx9) (fun h => hc31 ((txt_nob hvr).2 h)))]
set_option maxHeartbeats 8000000 in
theorem rprefix_step {n : Nat} (ih : ∀ {X : List Nat} {w : World} {vs : List Value} {t : Rx} (hx : RRx n X w vs t) (hg : Good t) (hl : t.esz ≤ 9999), Calls Tryz.prog 45 #[.agg vs.toArray] w (Ret fun v w' => v = .tuple #[.string (txt (headR t).1), .bool (headR t).2] ∧ Evo [] w w')) {X : List Nat} {w : World} {vs : List Value} {t : Rx} (hx : RRx (n + 1) X w vs t) (hg : Good t) (hl : t.esz ≤ 9999) : Calls Tryz.prog 45 #[.agg vs.toArray] w (Ret fun v w' => v = .tuple #[.string (txt (headR t).1), .bool (headR t).2] ∧ Evo [] w w') := by
  have hx0 := hx; obtain ⟨m, ra, rc, ka, kc, hm, rfl, hrg, hk, bl1, bl2, bl3⟩ := hx.get
  obtain rfl : m = n := by omega
  obtain ⟨_, _, hke, hkc, e1⟩ := hk; cases hke; have hn := (nodeP_iff t).1 hg.node; refine calls_of_cw (N := 111) Tryz.func45 rfl rfl rfl ?_; refine cw_seq ?_; refine cw_region ?_; refine wl_boxA rfl rfl fun b1 w1 hB2 hs3 hw4 => ?_; have hsz_b1 := hs3; have hG5 := Ge.new (Evo.refl [] w) hs3; have hE6 := (Evo.refl [] w).then hw4; refine wl_a ?_; refine wl_a ?_; refine wl_nil (nrm_then ?_); refine cw_seq ?_; refine cw_seq ?_; refine cw_region ?_; refine wl_val rfl (ex_fieldAddr rfl Tryz.fld25_0) ?_; refine wl_val rfl (ex_load1 rfl Tryz.agg3 (cell_nth hB2 rfl)) ?_; refine wl_nil (nrm_then ?_); refine cw_block ?_; refine cw_seq ?_; refine cw_region ?_; refine wl_val rfl (ex_eql rfl rfl) ?_; refine wl_a ?_; refine wl_nil (nrm_then ?_); refine cw_if rfl (fun hc15 => ?_) (fun hc15 => ?_)
  ·skip
   refine cw_seq ?_; refine cw_seq ?_; refine cw_region ?_; refine wl_val rfl (ex_fieldAddr rfl Tryz.fld25_1) ?_; refine wl_val rfl (ex_load1 rfl Tryz.agg21 (cell_nth hB2 rfl)) ?_; refine wl_val rfl (ex_geq rfl rfl) ?_; refine wl_m ?_; refine wl_split (t := 20) rfl (fun hs20 => ?_) (fun hs20 => ?_)
   ·skip
    refine wl_g ?_; refine wl_val rfl (ex_fieldAddr rfl Tryz.fld25_1) ?_; refine wl_g ?_; refine wl_val rfl (ex_load1 rfl Tryz.agg21 (cell_nth hB2 rfl)) ?_; refine wl_g ?_; refine wl_val rfl (ex_leq rfl rfl) ?_; refine wl_pt ?_; refine wl_nil (nrm_then ?_); refine cw_if rfl (fun hc24 => ?_) (fun hc24 => ?_)
    ·skip
     refine cw_seq ?_; refine cw_region ?_; refine wl_a ?_; refine wl_a ?_; refine wl_nil (nrm_then ?_); refine cw_ret (ret_then (ret_block (ret_then (body_ret2 rfl rfl rfl ?_)))); refine ⟨?_, hE6⟩
     exact ((hp_lit (by omega)).2 (fun h => by have := h.2.2; omega)).symm
    ·skip
     refine cw_skip (nrm_then ?_); refine cw_seq ?_; refine cw_region ?_; refine wl_val rfl (ex_fieldAddr rfl Tryz.fld25_1) ?_; refine wl_val rfl (ex_load1 rfl Tryz.agg21 (cell_nth hB2 rfl)) ?_
     refine wl_val rfl (ex_convF rfl Tryz.underlying21 Tryz.underlying3 (i64_rg (by have := hn.lit1 (by omega); omega) (by have := hn.lit2 (by omega); omega)).1 (i64_rg (by have := hn.lit1 (by omega); omega) (by have := hn.lit2 (by omega); omega)).2) ?_
     refine wl_call1 (vs := [_]) Tryz.goes91 rfl (form_ok t.r (by have := hn.lit1 (by omega); omega) (by have := hn.lit2 (by omega); omega)) rfl ?_
     rintro _ w7 ⟨rfl, hw8⟩; have hE9 := hE6.then hw8; have hB10 := hw8.blk0 hB2; refine wl_a ?_; refine wl_a ?_; refine wl_nil (nrm_then ?_); refine cw_ret (ret_block (ret_then (body_ret2 rfl rfl rfl ?_))); refine ⟨?_, hE9⟩
     exact ((hp_lit (by omega)).1 (by have h1 := hn.lit1 (by omega); have h2 := hn.lit2 (by omega); exact ⟨h1, h2, by omega⟩)).symm
   ·skip
    refine wl_n ?_; refine wl_n ?_; refine wl_n ?_; refine wl_pf ?_; refine wl_nil (nrm_then ?_); refine cw_false rfl ?_; refine cw_skip (nrm_then ?_); refine cw_seq ?_; refine cw_region ?_; refine wl_val rfl (ex_fieldAddr rfl Tryz.fld25_1) ?_; refine wl_val rfl (ex_load1 rfl Tryz.agg21 (cell_nth hB2 rfl)) ?_
    refine wl_val rfl (ex_convF rfl Tryz.underlying21 Tryz.underlying3 (i64_rg (by have := hn.lit1 (by omega); omega) (by have := hn.lit2 (by omega); omega)).1 (i64_rg (by have := hn.lit1 (by omega); omega) (by have := hn.lit2 (by omega); omega)).2) ?_
    refine wl_call1 (vs := [_]) Tryz.goes91 rfl (form_ok t.r (by have := hn.lit1 (by omega); omega) (by have := hn.lit2 (by omega); omega)) rfl ?_
    rintro _ w11 ⟨rfl, hw12⟩; have hE13 := hE6.then hw12; have hB14 := hw12.blk0 hB2; refine wl_a ?_; refine wl_a ?_; refine wl_nil (nrm_then ?_); refine cw_ret (ret_block (ret_then (body_ret2 rfl rfl rfl ?_))); refine ⟨?_, hE13⟩
    exact ((hp_lit (by omega)).1 (by have h1 := hn.lit1 (by omega); have h2 := hn.lit2 (by omega); exact ⟨h1, h2, by omega⟩)).symm
  ·skip
   refine cw_seq ?_; refine cw_region ?_; refine wl_val rfl (ex_eql rfl rfl) ?_; refine wl_a ?_; refine wl_nil (nrm_then ?_); refine cw_if rfl (fun hc29 => ?_) (fun hc29 => ?_)
   ·skip
    refine cw_seq ?_; refine cw_region ?_; refine wl_a ?_; refine wl_a ?_; refine wl_nil (nrm_then ?_); refine cw_ret (ret_block (ret_then (body_ret2 rfl rfl rfl ?_))); refine ⟨?_, hE6⟩
    show _ = hp (headR t); rw [hv_cls (t := t) (by omega)]; rfl
   ·skip
    refine cw_seq ?_; refine cw_region ?_; refine wl_val rfl (ex_eql rfl rfl) ?_; refine wl_a ?_; refine wl_nil (nrm_then ?_); refine cw_if rfl (fun hc31 => ?_) (fun hc31 => ?_)
    ·skip
     have hl1 : t.kids.length = 1 := by have h1 := hn.rep4; have h2 := hn.grp; omega
     have hj' : 0 < t.kids.length := by omega
     obtain ⟨b1, o1, vs1, ha1, hb1, hvl1, hc1, hrk⟩ := e1 0 hj'; obtain ⟨m1, ra1, rc1, ka1, kc1, rfl, rfl, -⟩ := id hrk.get; have he1 := eszs_one hl1; have he7 := esz7 (t := t) (by omega)
     have hkk : t.kids[0].esz ≤ 9999 := by omega
     refine cw_seq ?_; refine cw_region ?_; refine wl_val rfl (ex_fieldAddr rfl Tryz.fld25_8) ?_; refine wl_val rfl (ex_load1 rfl Tryz.agg23 (cell_nth hB2 rfl)) ?_
     refine wl_val rfl (ex_indexAddrZ (n := 0) (by rw [ha1]; rfl) rfl rfl Tryz.elem23 (by omega)) ?_
     refine wl_val rfl (ex_loadA rfl Tryz.agg25 Tryz.size25 (vs := [_, _, _, _, _, _, _, _, _]) rfl (hc1.evo hE6 (by simp))) ?_; refine wl_call1 (vs := [_]) Tryz.goes45 rfl (ih (RRx.pers _ _ _ _ _ _ (hE6.mono (fun b hb => by cases hb)) hrk) (hg.kid _ (List.getElem_mem hj')) hkk) rfl ?_; rintro _ w15 ⟨rfl, hw16⟩; have hE17 := hE6.then hw16; have hB18 := hw16.blk0 hB2; refine wl_val rfl (ex_extract rfl rfl) ?_; refine wl_val rfl (ex_extract rfl rfl) ?_; refine wl_a ?_; refine wl_a ?_; refine wl_nil (nrm_then ?_); refine cw_ret (ret_block (ret_then (body_ret2 rfl rfl rfl ?_))); refine ⟨?_, hE17⟩
     show _ = hp (headR t); rw [hv_grp (t := t) (by omega) hj']; rfl
    ·skip
     refine cw_seq ?_; refine cw_region ?_; refine wl_val rfl (ex_eql rfl rfl) ?_; refine wl_a ?_; refine wl_nil (nrm_then ?_); refine cw_if rfl (fun hc40 => ?_) (fun hc40 => ?_)
     ·skip
      have he4 := esz4 (t := t) (by omega); refine cw_seq ?_; refine cw_region ?_; refine wl_a ?_; refine wl_nil (nrm_then ?_); refine cw_seq ?_; refine cw_seq ?_; refine cw_region ?_; refine wl_a ?_; refine wl_nil (nrm_then ?_); refine cw_block ?_; refine cw_loop (α := PcG) (⟨0, []⟩) (fun x => [(5, .int .i64 (x.k : Nat)), (4, .string (txt x.b))]) [(1, _)] (fun x wr => Evo [] w1 wr ∧ (PcI t x)) (fun x => t.kids.length - x.k) ⟨rfl, rfl, trivial⟩ ⟨rfl, trivial⟩ ⟨Evo.refl _ _, ⟨Nat.zero_le _, rfl, Nat.zero_le _⟩⟩ ?_; rintro ⟨k, b⟩ wr19 ⟨hV20, ⟨hk9, heq, hcl⟩⟩; show CW _ _ _ _ [(5, .int .i64 (k : Nat)), (4, .string (txt b)), (1, _)] _
      try dsimp only at hk9
      try dsimp only at heq
      try dsimp only at hcl
      have hE21 := hE6.then hV20; have hB22 := hV20.blk0 hB2; refine cw_seq ?_; refine cw_seq ?_; refine cw_region ?_; refine wl_m ?_; refine wl_val rfl (ex_fieldAddr rfl Tryz.fld25_8) ?_; refine wl_val rfl (ex_load1 rfl Tryz.agg23 (cell_nth hB22 rfl)) ?_; refine wl_val rfl (ex_len_slice rfl Tryz.underlying23 rfl) ?_; refine wl_val rfl (ex_lss rfl rfl) ?_; refine wl_nil (nrm_then ?_); refine cw_if rfl (fun hc46 => ?_) (fun hc46 => ?_)
      ·skip
       have hj' : k < t.kids.length := by omega
       obtain ⟨b1, o1, vs1, ha1, hb1, hvl1, hc1, hrk⟩ := e1 k hj'; obtain ⟨m1, ra1, rc1, ka1, kc1, rfl, rfl, -⟩ := id hrk.get; have hek := eszs_le hj'; have hkg := hg.kid _ (List.getElem_mem hj'); have hkz := head_sz hkg
       have hkk : t.kids[k].esz ≤ 9999 := by omega
       have hz9 := eszs_tk t.kids k; have hkl := headR_len _ hkg; refine cw_skip (nrm_then ?_); refine cw_seq ?_; refine cw_block ?_; refine cw_seq ?_; refine cw_region ?_; refine wl_val rfl (ex_fieldAddr rfl Tryz.fld25_8) ?_; refine wl_val rfl (ex_load1 rfl Tryz.agg23 (cell_nth hB22 rfl)) ?_; refine wl_m ?_
       refine wl_val rfl (ex_indexAddr (n := k) (by rw [ha1]; rfl) rfl Tryz.elem23 (by omega)) ?_
       refine wl_val rfl (ex_loadA rfl Tryz.agg25 Tryz.size25 (vs := [_, _, _, _, _, _, _, _, _]) rfl (hc1.evo hE21 (by simp))) ?_; refine wl_call1 (vs := [_]) Tryz.goes45 rfl (ih (RRx.pers _ _ _ _ _ _ (hE21.mono (fun b hb => by cases hb)) hrk) (hg.kid _ (List.getElem_mem hj')) hkk) rfl ?_; rintro _ w23 ⟨rfl, hw24⟩; have hE25 := hE21.then hw24; have hE26 := hV20.then hw24; have hB27 := hw24.blk0 hB22; refine wl_m ?_; refine wl_val rfl (ex_extract rfl rfl) ?_; refine wl_val rfl (ex_extract rfl rfl) ?_; refine wl_a ?_; refine wl_a ?_; refine wl_nil (nrm_then ?_); refine cw_seq ?_; refine cw_region ?_; have hcd := headC_drop hj' b; have hbs := txt_len b
       have hsa : (txt b).size + (txt (headR t.kids[k]).1).size ≤ 9223372036854775807 := by omega
       refine wl_m ?_; refine wl_m ?_; refine wl_val rfl (ex_sadd rfl rfl hsa) ?_; rw [← txt_app]; refine wl_a ?_; refine wl_nil (nrm_then ?_); refine cw_seq ?_; refine cw_region ?_; refine wl_m ?_; refine wl_val rfl (ex_notb rfl) ?_; refine wl_nil (nrm_then ?_); refine cw_ifb rfl (fun hc62 => ?_) (fun hc62 => ?_)
       ·skip
        refine cw_seq ?_; refine cw_region ?_; refine wl_m ?_; refine wl_a ?_; refine wl_a ?_; refine wl_nil (nrm_then ?_); refine cw_ret (ret_block (ret_then (ret_then (ret_block (ret_then (ret_block (ret_then (body_ret2 rfl rfl rfl ?_)))))))); refine ⟨?_, hE25⟩
        have hkx : (headR t.kids[k]).2 = false := by simpa using hc62
        rw [if_neg (by rw [hkx]; decide)] at hcd
        show _ = hp (headR t); rw [hv_cat (t := t) (by omega), ← heq, hcd]
       ·skip
        refine cw_skip (nrm_block (nrm_then ?_)); refine cw_region ?_; refine wl_m ?_; refine wl_val rfl (ex_add_i64 rfl rfl (by omega) (by omega)) ?_; refine wl_a ?_; refine wl_nil (nrm_same ?_); refine ⟨⟨k + 1, b ++ (headR t.kids[k]).1⟩, ?_, ⟨rfl, rfl, trivial⟩, ⟨rfl, trivial⟩, hE26, ?_⟩
        · (try dsimp only); omega
        ·skip
         try dsimp only
         have hkx : (headR t.kids[k]).2 = true := by simpa using hc62
         rw [if_pos hkx] at hcd
         exact ⟨by show k + 1 ≤ _; omega, hcd.symm.trans heq, by show (b ++ _).length ≤ eszs (t.kids.take (k + 1)); rw [List.length_append, eszs_take hj']; omega⟩
      ·skip
       refine cw_exit (ex_then (ex_then (ex_here (nrm_then ?_)))); refine cw_seq ?_; refine cw_region ?_; refine wl_m ?_; refine wl_a ?_; refine wl_a ?_; refine wl_nil (nrm_then ?_); refine cw_ret (ret_block (ret_then (body_ret2 rfl rfl rfl ?_))); refine ⟨?_, hE21⟩
       show _ = hp (headR t); rw [hv_cat (t := t) (by omega), ← heq, headC_end (by omega)]
     ·skip
      refine cw_seq ?_; refine cw_region ?_; refine wl_val rfl (ex_eql rfl rfl) ?_; refine wl_a ?_; refine wl_nil (nrm_then ?_); refine cw_if rfl (fun hc65 => ?_) (fun hc65 => ?_)
      ·skip
       have hal := hn.two (by omega); have he5 := esz5 (t := t) (by omega) (by omega)
       have hj' : 0 < t.kids.length := by omega
       obtain ⟨b1, o1, vs1, ha1, hb1, hvl1, hc1, hrk⟩ := e1 0 hj'; obtain ⟨m1, ra1, rc1, ka1, kc1, rfl, rfl, -⟩ := id hrk.get; have hek := eszs_le hj'
       have hkk : t.kids[0].esz ≤ 9999 := by omega
       have hkl := headR_len _ (hg.kid _ (List.getElem_mem hj')); have hvr0 := headR_vr t.kids[0]; refine cw_seq ?_; refine cw_region ?_; refine wl_val rfl (ex_fieldAddr rfl Tryz.fld25_8) ?_; refine wl_val rfl (ex_load1 rfl Tryz.agg23 (cell_nth hB2 rfl)) ?_
       refine wl_val rfl (ex_indexAddrZ (n := 0) (by rw [ha1]; rfl) rfl rfl Tryz.elem23 (by omega)) ?_
       refine wl_val rfl (ex_loadA rfl Tryz.agg25 Tryz.size25 (vs := [_, _, _, _, _, _, _, _, _]) rfl (hc1.evo hE6 (by simp))) ?_; refine wl_call1 (vs := [_]) Tryz.goes45 rfl (ih (RRx.pers _ _ _ _ _ _ (hE6.mono (fun b hb => by cases hb)) hrk) (hg.kid _ (List.getElem_mem hj')) hkk) rfl ?_; rintro _ w28 ⟨rfl, hw29⟩; have hE30 := hE6.then hw29; have hB31 := hw29.blk0 hB2; refine wl_m ?_; refine wl_val rfl (ex_extract rfl rfl) ?_; refine wl_val rfl (ex_extract rfl rfl) ?_; refine wl_a ?_; refine wl_a ?_; refine wl_nil (nrm_then ?_); refine cw_seq ?_; refine cw_seq ?_; refine cw_region ?_; refine wl_a ?_; refine wl_nil (nrm_then ?_); refine cw_block ?_
       refine cw_loop (α := PaG) (⟨1, (headR t.kids[0]).1, (headR t.kids[0]).2⟩) (fun y => [(10, .int .i64 (y.k : Nat)), (8, .string (txt y.h)), (9, .bool y.x)]) [(1, _), (2, _), (3, _)] (fun y wr => Evo [] w28 wr ∧ (PaI t y)) (fun y => t.kids.length - y.k) ⟨rfl, rfl, rfl, trivial⟩ ⟨rfl, rfl, rfl, trivial⟩ ⟨Evo.refl _ _, ⟨Nat.le_refl _, by show 1 ≤ _; omega, hvr0, (headB_one (by omega)).symm, by show (headR t.kids[0]).1.length ≤ _; omega⟩⟩ ?_
       rintro ⟨k, h, x⟩ wr32 ⟨hV33, hpa⟩; show CW _ _ _ _ [(10, .int .i64 (k : Nat)), (8, .string (txt h)), (9, .bool x), (1, _), (2, _), (3, _)] _
       try dsimp only at hpa
       have hE34 := hE30.then hV33; have hB35 := hV33.blk0 hB31; have hk9 := hpa.hk; have hk8 := hpa.h1; simp only at hk9 hk8; refine cw_seq ?_; refine cw_seq ?_; refine cw_region ?_; refine wl_m ?_; refine wl_val rfl (ex_fieldAddr rfl Tryz.fld25_8) ?_; refine wl_val rfl (ex_load1 rfl Tryz.agg23 (cell_nth hB35 rfl)) ?_; refine wl_val rfl (ex_len_slice rfl Tryz.underlying23 rfl) ?_; refine wl_val rfl (ex_lss rfl rfl) ?_; refine wl_nil (nrm_then ?_); refine cw_if rfl (fun hc79 => ?_) (fun hc79 => ?_)
       ·skip
        have hj' : k < t.kids.length := by omega
        obtain ⟨b1, o1, vs1, ha1, hb1, hvl1, hc1, hrk⟩ := e1 k hj'; obtain ⟨m2, ra2, rc2, ka2, kc2, hmq, rfl, -⟩ := id hrk.get; have hek := eszs_le hj'; have hkg := hg.kid _ (List.getElem_mem hj'); have hkz := head_sz hkg
        have hkk : t.kids[k].esz ≤ 9999 := by omega
        have hz9 := eszs_tk t.kids k; have hhs := txt_len h; have hhl : h.length ≤ eszs t.kids := hpa.len; have had := headA_drop hj' (h, x); have hvr := hpa.vr; refine cw_skip (nrm_then ?_); refine cw_seq ?_; refine cw_block ?_; refine cw_seq ?_; refine cw_region ?_; refine wl_val rfl (ex_fieldAddr rfl Tryz.fld25_8) ?_; refine wl_val rfl (ex_load1 rfl Tryz.agg23 (cell_nth hB35 rfl)) ?_; refine wl_m ?_
        refine wl_val rfl (ex_indexAddr (n := k) (by rw [ha1]; rfl) rfl Tryz.elem23 (by omega)) ?_
        refine wl_val rfl (ex_loadA rfl Tryz.agg25 Tryz.size25 (vs := [_, _, _, _, _, _, _, _, _]) rfl (hc1.evo hE34 (by simp))) ?_; refine wl_call1 (vs := [_]) Tryz.goes45 rfl (ih (RRx.pers _ _ _ _ _ _ (hE34.mono (fun b hb => by cases hb)) hrk) (hg.kid _ (List.getElem_mem hj')) hkk) rfl ?_; rintro _ w36 ⟨rfl, hw37⟩; have hE38 := hE34.then hw37; have hE39 := hV33.then hw37; have hB40 := hw37.blk0 hB35; refine wl_m ?_; refine wl_val rfl (ex_extract rfl rfl) ?_; refine wl_val rfl (ex_extract rfl rfl) ?_; refine wl_a ?_; refine wl_a ?_; refine wl_nil (nrm_then ?_); refine cw_seq ?_; refine cw_region ?_; refine wl_m ?_; refine wl_m ?_; refine wl_splitb (t := 92) rfl (fun hs92 => ?_) (fun hs92 => ?_)
        ·skip
         refine wl_g ?_; refine wl_m ?_; refine wl_pt ?_; refine wl_m ?_; refine wl_splitb (t := 95) rfl (fun hs95 => ?_) (fun hs95 => ?_)
         ·skip
          have hT9 : Value.bool (decide (txt h = txt (headR t.kids[k]).1)) = .bool (x && (headR t.kids[k]).2 && decide (h = (headR t.kids[k]).1)) := congrArg Value.bool (by rw [dec_txt hvr (headR_vr _), hs92, hs95, Bool.true_and, Bool.true_and]); refine wl_g ?_; refine wl_m ?_; refine wl_g ?_; refine wl_m ?_; refine wl_g ?_; refine wl_val rfl (ex_eqs rfl rfl) ?_; refine wl_val rfl (ex_pickTu rfl rfl hT9) ?_; refine wl_a ?_; refine wl_nil (nrm_then ?_); refine cw_region ?_; refine wl_m ?_; refine wl_m ?_; refine wl_call1 (vs := [_, _]) Tryz.goes92 rfl (rcommon_ok hvr (headR_vr t.kids[k]) (by omega) (by omega)) rfl ?_; rintro _ w41 ⟨rfl, hw42⟩; have hE43 := hE38.then hw42; have hE44 := hE39.then hw42; have hB45 := hw42.blk0 hB40; refine wl_a ?_; refine wl_nil (nrm_block (nrm_then ?_)); refine cw_region ?_; refine wl_m ?_; refine wl_val rfl (ex_add_i64 rfl rfl (by omega) (by omega)) ?_; refine wl_a ?_; refine wl_nil (nrm_same ?_); refine ⟨⟨k + 1, cpre h (headR t.kids[k]).1, (x && (headR t.kids[k]).2 && decide (h = (headR t.kids[k]).1))⟩, ?_, ⟨rfl, rfl, rfl, trivial⟩, ⟨rfl, rfl, rfl, trivial⟩, hE44, ?_⟩
          · (try dsimp only); omega
          ·skip
           try dsimp only
           exact ⟨by show 1 ≤ k + 1; omega, by show k + 1 ≤ _; omega, vr_cpre hvr, had.symm.trans hpa.eq, Nat.le_trans (cpre_len _ _) hhl⟩
         ·skip
          have hT9 : Value.bool false = .bool (x && (headR t.kids[k]).2 && decide (h = (headR t.kids[k]).1)) := congrArg Value.bool (by rw [hs92, hs95, Bool.true_and, Bool.false_and]); refine wl_n ?_; refine wl_n ?_; refine wl_n ?_; refine wl_val rfl (ex_pickFu rfl rfl hT9) ?_; refine wl_a ?_; refine wl_nil (nrm_then ?_); refine cw_region ?_; refine wl_m ?_; refine wl_m ?_; refine wl_call1 (vs := [_, _]) Tryz.goes92 rfl (rcommon_ok hvr (headR_vr t.kids[k]) (by omega) (by omega)) rfl ?_; rintro _ w46 ⟨rfl, hw47⟩; have hE48 := hE38.then hw47; have hE49 := hE39.then hw47; have hB50 := hw47.blk0 hB40; refine wl_a ?_; refine wl_nil (nrm_block (nrm_then ?_)); refine cw_region ?_; refine wl_m ?_; refine wl_val rfl (ex_add_i64 rfl rfl (by omega) (by omega)) ?_; refine wl_a ?_; refine wl_nil (nrm_same ?_); refine ⟨⟨k + 1, cpre h (headR t.kids[k]).1, (x && (headR t.kids[k]).2 && decide (h = (headR t.kids[k]).1))⟩, ?_, ⟨rfl, rfl, rfl, trivial⟩, ⟨rfl, rfl, rfl, trivial⟩, hE49, ?_⟩
          · (try dsimp only); omega
          ·skip
           try dsimp only
           exact ⟨by show 1 ≤ k + 1; omega, by show k + 1 ≤ _; omega, vr_cpre hvr, had.symm.trans hpa.eq, Nat.le_trans (cpre_len _ _) hhl⟩
        ·skip
         have hT9 : Value.bool false = .bool (x && (headR t.kids[k]).2 && decide (h = (headR t.kids[k]).1)) := congrArg Value.bool (by rw [hs92, Bool.false_and, Bool.false_and]); refine wl_n ?_; refine wl_pf ?_; refine wl_m ?_; refine wl_n ?_; refine wl_n ?_; refine wl_n ?_; refine wl_val rfl (ex_pickFu rfl rfl hT9) ?_; refine wl_a ?_; refine wl_nil (nrm_then ?_); refine cw_region ?_; refine wl_m ?_; refine wl_m ?_; refine wl_call1 (vs := [_, _]) Tryz.goes92 rfl (rcommon_ok hvr (headR_vr t.kids[k]) (by omega) (by omega)) rfl ?_; rintro _ w51 ⟨rfl, hw52⟩; have hE53 := hE38.then hw52; have hE54 := hE39.then hw52; have hB55 := hw52.blk0 hB40; refine wl_a ?_; refine wl_nil (nrm_block (nrm_then ?_)); refine cw_region ?_; refine wl_m ?_; refine wl_val rfl (ex_add_i64 rfl rfl (by omega) (by omega)) ?_; refine wl_a ?_; refine wl_nil (nrm_same ?_); refine ⟨⟨k + 1, cpre h (headR t.kids[k]).1, (x && (headR t.kids[k]).2 && decide (h = (headR t.kids[k]).1))⟩, ?_, ⟨rfl, rfl, rfl, trivial⟩, ⟨rfl, rfl, rfl, trivial⟩, hE54, ?_⟩
         · (try dsimp only); omega
         ·skip
          try dsimp only
          exact ⟨by show 1 ≤ k + 1; omega, by show k + 1 ≤ _; omega, vr_cpre hvr, had.symm.trans hpa.eq, Nat.le_trans (cpre_len _ _) hhl⟩
       ·skip
        refine cw_exit (ex_then (ex_then (ex_here (nrm_then ?_)))); refine cw_seq ?_; refine cw_region ?_; refine wl_m ?_; refine wl_m ?_; refine wl_a ?_; refine wl_a ?_; refine wl_nil (nrm_then ?_); refine cw_ret (ret_block (ret_then (body_ret2 rfl rfl rfl ?_))); refine ⟨?_, hE34⟩
        show _ = hp (headR t); rw [hv_alt (t := t) (by omega), ← hpa.eq, headA_end (by show t.kids.length ≤ k; omega)]
      ·skip
       refine cw_seq ?_; refine cw_region ?_; refine wl_val rfl (ex_eql rfl rfl) ?_; refine wl_a ?_; refine wl_nil (nrm_then ?_); refine cw_if rfl (fun hc105 => ?_) (fun hc105 => ?_)
       ·skip
        refine cw_seq ?_; refine cw_region ?_; refine wl_val rfl (ex_loadBlk rfl Tryz.agg25 Tryz.size25 hB2 rfl) ?_; refine wl_call1 (vs := [_]) Tryz.goes93 rfl (rrep_step ih (RRx.pers _ _ _ _ _ _ (hE6.mono (fun b hb => by cases hb)) hx0) hg hl (by omega)) rfl ?_; rintro _ w56 ⟨rfl, hw57⟩; have hE58 := hE6.then hw57; have hB59 := hw57.blk0 hB2; refine wl_val rfl (ex_extract rfl rfl) ?_; refine wl_val rfl (ex_extract rfl rfl) ?_; refine wl_a ?_; refine wl_a ?_; refine wl_nil (nrm_then ?_); refine cw_ret (ret_block (ret_then (body_ret2 rfl rfl rfl ?_))); refine ⟨?_, hE58⟩
        rfl
       ·skip
        refine cw_skip (nrm_block (nrm_then ?_)); refine cw_seq ?_; refine cw_region ?_; refine wl_a ?_; refine wl_a ?_; refine wl_nil (nrm_then ?_); refine cw_ret (body_ret2 rfl rfl rfl ?_); refine ⟨?_, hE6⟩
        show _ = hp (headR t); rw [hv_eps (t := t) (by have := hn.kind1; have := hn.kind2; omega)]; rfl
theorem rprefix_ok : ∀ {n : Nat} {X : List Nat} {w : World} {vs : List Value} {t : Rx} (hx : RRx n X w vs t) (hg : Good t) (hl : t.esz ≤ 9999), Calls Tryz.prog 45 #[.agg vs.toArray] w (Ret fun v w' => v = .tuple #[.string (txt (headR t).1), .bool (headR t).2] ∧ Evo [] w w')
  | 0, X, w, vs, t, hx, hg, hl => hx.elim
  | n + 1, X, w, vs, t, hx, hg, hl => rprefix_step (n := n) (fun hx hg hl => rprefix_ok hx hg hl) hx hg hl
theorem refPrefix_ok {n : Nat} {w : World} {vs : List Value} {t : Rx} (hx : RRx n [] w vs t) :
    Calls Tryz.prog 15 #[.agg vs.toArray] w (Ret fun v w' => v = .string (prefT t) ∧ Evo [] w w') := by
  have hx0 := hx; obtain ⟨m, ra, rc, ka, kc, hm, rfl, hrg, hk, bl1, bl2, bl3⟩ := hx.get; refine calls_of_cw (N := 19) Tryz.func15 rfl rfl rfl ?_; refine cw_seq ?_; refine cw_region ?_; refine wl_boxA rfl rfl fun b1 w2 hB3 hs4 hw5 => ?_; have hG6 := Ge.new (Evo.refl [] w) hs4; have hE7 := (Evo.refl [] w).then hw5; refine wl_a ?_; refine wl_nil (nrm_then ?_); refine cw_seq ?_; refine cw_seq ?_; refine cw_region ?_; refine wl_val rfl (ex_loadBlk rfl Tryz.agg25 Tryz.size25 hB3 rfl) ?_; refine wl_call1 (vs := [_]) Tryz.goes41 rfl (refValid_ok (RRx.pers _ _ _ _ _ _ hE7 hx0)) rfl ?_; rintro _ w8 ⟨vb, rfl, hvb, hw9⟩; have hE10 := hE7.then hw9; have hB11 := hw9.blk0 hB3; refine wl_val rfl (ex_notb rfl) ?_; refine wl_m ?_; refine wl_splitb (t := 8) rfl (fun hs8 => ?_) (fun hs8 => ?_)
  ·skip
   refine wl_n ?_; refine wl_n ?_; refine wl_n ?_; refine wl_pt ?_; refine wl_nil (nrm_then ?_); refine cw_true rfl ?_; refine cw_seq ?_; refine cw_region ?_; refine wl_a ?_; refine wl_nil (nrm_then ?_); refine cw_ret (ret_then (body_ret1 rfl rfl ?_))
   exact ⟨by rw [prefT, if_neg (fun h => by rw [hvb.2 h.1] at hs8; cases hs8)], hE10⟩
  ·skip
   refine wl_g ?_; refine wl_val rfl (ex_loadBlk rfl Tryz.agg25 Tryz.size25 hB11 rfl) ?_; refine wl_g ?_; refine wl_call1 (vs := [_]) Tryz.goes43 rfl (rSize_ok (RRx.pers _ _ _ _ _ _ hE10 hx0)) rfl ?_; rintro _ w12 ⟨sz, rfl, hsz, hw13⟩; have hE14 := hE10.then hw13; have hB15 := hw13.blk0 hB11; refine wl_g ?_; refine wl_val rfl (ex_gtr rfl rfl) ?_; refine wl_pf ?_; refine wl_nil (nrm_then ?_); refine cw_if rfl (fun hc12 => ?_) (fun hc12 => ?_)
   ·skip
    refine cw_seq ?_; refine cw_region ?_; refine wl_a ?_; refine wl_nil (nrm_then ?_); refine cw_ret (ret_then (body_ret1 rfl rfl ?_))
    exact ⟨by rw [prefT, if_neg (fun h => by have := hsz.1 h.1; omega)], hE14⟩
   ·skip
    refine cw_skip (nrm_then ?_); refine cw_seq ?_; refine cw_region ?_; have hok : t.Ok := hvb.1 (by simpa using hs8)
    have hszE : t.esz + 1 ≤ 10000 := by have := hsz.1 hok; omega
    refine wl_val rfl (ex_loadBlk rfl Tryz.agg25 Tryz.size25 hB15 rfl) ?_; refine wl_call1 (vs := [_]) Tryz.goes45 rfl (rprefix_ok (RRx.pers _ _ _ _ _ _ hE14 hx0) hok.good (size_lt2 hszE)) rfl ?_; rintro _ w16 ⟨rfl, hw17⟩; have hE18 := hE14.then hw17; have hB19 := hw17.blk0 hB15; refine wl_m ?_; refine wl_val rfl (ex_extract rfl rfl) ?_; refine wl_val rfl (ex_extract rfl rfl) ?_; refine wl_a ?_; refine wl_a ?_; refine wl_nil (nrm_then ?_); refine cw_seq ?_; refine cw_region ?_; refine wl_m ?_; refine wl_a ?_; refine wl_nil (nrm_then ?_); refine cw_ret (body_ret1 rfl rfl ?_)
    exact ⟨(by rw [prefT, if_pos ⟨hok, hszE⟩]; rfl), hE18⟩
theorem sameTexts_ok {X Y : List Nat} {w : World} {v1 v2 : Value} {l m : List ByteArray} (h1 : RSl 1 RTs X w v1 l) (h2 : RSl 1 RTs Y w v2 m) (hl : l.length ≤ 140737488351232) (hm : m.length ≤ 140737488351232) :
    Calls Tryz.prog 10 #[v1, v2] w (Ret fun v w' => v = .bool (decide (l = m)) ∧ Evo [] w w') := by
  obtain ⟨a1, c1, rfl, hcc1, e1⟩ := h1; obtain ⟨a2, c2, rfl, hcc2, e2⟩ := h2; refine calls_of_cw (N := 26) Tryz.func10 rfl rfl rfl ?_; refine cw_seq ?_; refine cw_region ?_; refine wl_a ?_; refine wl_nil (nrm_then ?_); refine cw_seq ?_; refine cw_seq ?_; refine cw_region ?_; refine wl_m ?_; refine wl_val rfl (ex_len_slice rfl Tryz.underlying26 rfl) ?_; refine wl_m ?_; refine wl_val rfl (ex_len_slice rfl Tryz.underlying26 rfl) ?_; refine wl_val rfl (ex_neq rfl rfl) ?_; refine wl_nil (nrm_then ?_); refine cw_if rfl (fun hc10 => ?_) (fun hc10 => ?_)
  ·skip
   refine cw_seq ?_; refine cw_region ?_; refine wl_a ?_; refine wl_nil (nrm_then ?_); refine cw_ret (ret_then (body_ret1 rfl rfl ?_)); exact ⟨congrArg Value.bool (decide_eq_false (fun e => hc10 (by rw [e]))).symm, (Evo.refl [] w)⟩
  ·skip
   have hlm : l.length = m.length := by omega
   refine cw_skip (nrm_then ?_); refine cw_seq ?_; refine cw_seq ?_; refine cw_region ?_; refine wl_a ?_; refine wl_nil (nrm_then ?_); refine cw_block ?_; refine cw_loop (α := Nat) (0) (fun k => [(5, .int .i64 (k : Nat))]) [(0, _), (1, _)] (fun k wr => Evo [] w wr ∧ (SmI l m k)) (fun k => l.length - k) ⟨rfl, trivial⟩ ⟨rfl, rfl, trivial⟩ ⟨Evo.refl _ _, ⟨Nat.zero_le _, fun j h1 h2 h3 => by omega⟩⟩ ?_; rintro k wr1 ⟨hV2, hsm⟩; show CW _ _ _ _ [(5, _), (0, _), (1, _)] _; have hE3 := (Evo.refl [] w).then hV2; have hk9 := hsm.hk; refine cw_seq ?_; refine cw_seq ?_; refine cw_region ?_; refine wl_m ?_; refine wl_m ?_; refine wl_val rfl (ex_len_slice rfl Tryz.underlying26 rfl) ?_; refine wl_val rfl (ex_lss rfl rfl) ?_; refine wl_nil (nrm_then ?_); refine cw_if rfl (fun hc14 => ?_) (fun hc14 => ?_)
   ·skip
    have hk' : k < l.length := by omega
    have hk2 : k < m.length := by omega
    obtain ⟨b7, o7, vs7, ha7, hb7, hvl7, hc7, rfl⟩ := e1 k hk'; obtain ⟨b8, o8, vs8, ha8, hb8, hvl8, hc8, rfl⟩ := e2 k hk2; refine cw_skip (nrm_then ?_); refine cw_seq ?_; refine cw_block ?_; refine cw_seq ?_; refine cw_quiet (by kernel_rfl) (by kernel_rfl) ?_; refine ql_val rfl (fun _ hq5 => ex_move rfl) ?_; refine ql_val rfl (fun _ hq5 => ex_move rfl) ?_; refine ql_val rfl (fun _ hq5 => ex_indexAddrA rfl rfl ha7 Tryz.elem26 hk') ?_; refine ql_val rfl (fun _ hq5 => ex_load1 rfl Tryz.agg9 ((hc7.evo (hE3.then hq5) (by simp)) 0 _ rfl)) ?_; refine ql_val rfl (fun _ hq5 => ex_move rfl) ?_; refine ql_val rfl (fun _ hq5 => ex_move rfl) ?_; refine ql_val rfl (fun _ hq5 => ex_indexAddrA rfl rfl ha8 Tryz.elem26 hk2) ?_; refine ql_val rfl (fun _ hq5 => ex_load1 rfl Tryz.agg9 ((hc8.evo (hE3.then hq5) (by simp)) 0 _ rfl)) ?_; refine ql_val rfl (fun _ hq5 => ex_neqs rfl rfl) ?_; refine ql_nil (fun wq4 hq5 => nrm_then ?_); have hE6 := hE3.then hq5; have hE7 := hV2.then hq5; refine cw_if rfl (fun hc25 => ?_) (fun hc25 => ?_)
    ·skip
     refine cw_seq ?_; refine cw_region ?_; refine wl_a ?_; refine wl_nil (nrm_then ?_); refine cw_ret (ret_block (ret_then (ret_then (ret_block (ret_then (body_ret1 rfl rfl ?_)))))); exact ⟨congrArg Value.bool (decide_eq_false (fun e => hc25 (by simp [e]))).symm, hE6⟩
    ·skip
     refine cw_skip (nrm_block (nrm_then ?_)); refine cw_region ?_; refine wl_m ?_; refine wl_val rfl (ex_add_i64 rfl rfl (by omega) (by omega)) ?_; refine wl_a ?_; refine wl_nil (nrm_same ?_); refine ⟨k + 1, ?_, ⟨rfl, trivial⟩, ⟨rfl, rfl, trivial⟩, hE7, ?_⟩
     · omega
     ·skip
      exact ⟨by omega, fun j h1 h2 h3 => by by_cases e : j = k; (subst e; exact Classical.not_not.1 hc25); exact hsm.eq j h1 h2 (by omega)⟩
   ·skip
    refine cw_exit (ex_then (ex_then (ex_here (nrm_then ?_)))); refine cw_seq ?_; refine cw_region ?_; refine wl_a ?_; refine wl_nil (nrm_then ?_); refine cw_ret (body_ret1 rfl rfl ?_); exact ⟨congrArg Value.bool (decide_eq_true (sm_end hsm (by omega) hlm)).symm, hE3⟩
end Go.Proofs.YtgnpldackjbdjaaGreat
namespace Go.Proofs.YtgnpldackjbdjaaGreat
open Go.Proofs
open Go.W Go.RowKit
attribute [local irreducible] Decidable.decide
set_option linter.unusedSimpArgs false
set_option linter.unusedVariables false
theorem Tryz.goes10 : Goes Tryz.prog 10 := ⟨_, Tryz.func10, by kernel_rfl, by kernel_rfl⟩
theorem Tryz.goes11 : Goes Tryz.prog 11 := ⟨_, Tryz.func11, by kernel_rfl, by kernel_rfl⟩
theorem Tryz.goes12 : Goes Tryz.prog 12 := ⟨_, Tryz.func12, by kernel_rfl, by kernel_rfl⟩
theorem Tryz.goes13 : Goes Tryz.prog 13 := ⟨_, Tryz.func13, by kernel_rfl, by kernel_rfl⟩
theorem Tryz.goes14 : Goes Tryz.prog 14 := ⟨_, Tryz.func14, by kernel_rfl, by kernel_rfl⟩
theorem Tryz.goes15 : Goes Tryz.prog 15 := ⟨_, Tryz.func15, by kernel_rfl, by kernel_rfl⟩
theorem Tryz.goes16 : Goes Tryz.prog 16 := ⟨_, Tryz.func16, by kernel_rfl, by kernel_rfl⟩
theorem Tryz.goes8 : Goes Tryz.prog 8 := ⟨_, Tryz.func8, by kernel_rfl, by kernel_rfl⟩
theorem Tryz.goes9 : Goes Tryz.prog 9 := ⟨_, Tryz.func9, by kernel_rfl, by kernel_rfl⟩
abbrev aT : ByteArray := ByteArray.mk #[97]
theorem litA_esz : (litX 97).esz = 1 := by rw [Rx.esz_eq]; rfl
theorem litA_nolook : NoLook (litX 97) := nolook_of (by show (2 : Int) < 8; decide) (fun k hk => by cases hk)
theorem isR97 : IsR 97 := by unfold IsR; omega
theorem form97 : bstr (formB 97) = aT := by rw [formB, if_pos isR97]; rfl
theorem litA_tg (u : ByteArray) : Tg (litX 97) u ↔ u = aT := by
  rw [tg2 (x := litX 97) rfl]
  show IsR 97 ∧ u = bstr (formB 97) ↔ _
  rw [form97]
  exact ⟨fun h => h.2, fun h => ⟨isR97, h⟩⟩
theorem nodup_le : ∀ {ws l : List ByteArray}, ws.Nodup → (∀ u, u ∈ ws → u ∈ l) → ws.length ≤ l.length
  | [], l, _, _ => Nat.zero_le _
  | x :: ws, l, hn, h => by
    obtain ⟨a, b, rfl⟩ := List.append_of_mem (h x (List.mem_cons_self ..))
    have h1 : ∀ u, u ∈ ws → u ∈ a ++ b := fun u hu => by
      have hne : u ≠ x := fun e => (List.pairwise_cons.1 hn).1 u hu e.symm
      have h2 := h u (List.mem_cons_of_mem _ hu)
      rcases List.mem_append.1 h2 with h3 | h3
      · exact List.mem_append_left _ h3
      · rcases List.mem_cons.1 h3 with h4 | h4
        · exact (hne h4).elim
        · exact List.mem_append_right _ h4
    have h2 := nodup_le (List.pairwise_cons.1 hn).2 h1
    rw [List.length_append] at h2
    show ws.length + 1 ≤ _
    rw [List.length_append, List.length_cons]; omega
theorem srs_uniq : ∀ {l m : List ByteArray}, SRs l → SRs m → (∀ u, u ∈ l ↔ u ∈ m) → l = m
  | [], [], _, _, _ => rfl
  | [], y :: m, _, _, h => by have := (h y).2 (List.mem_cons_self ..); cases this
  | x :: l, [], _, _, h => by have := (h x).1 (List.mem_cons_self ..); cases this
  | x :: l, y :: m, hl, hm, h => by
    have hl1 := List.pairwise_cons.1 hl
    have hm1 := List.pairwise_cons.1 hm
    have e : x = y := by
      rcases List.mem_cons.1 ((h x).1 (List.mem_cons_self ..)) with e | h1
      · exact e
      · rcases List.mem_cons.1 ((h y).2 (List.mem_cons_self ..)) with e | h2
        · exact e.symm
        · exact (List.lt_asymm (hl1.1 y h2) (hm1.1 x h1)).elim
    subst e
    have : l = m := srs_uniq hl1.2 hm1.2 fun u => by
      constructor
      · intro hu
        rcases List.mem_cons.1 ((h u).1 (List.mem_cons_of_mem _ hu)) with e | h1
        · subst e; exact (List.lt_irrefl _ (hl1.1 u hu)).elim
        · exact h1
      · intro hu
        rcases List.mem_cons.1 ((h u).2 (List.mem_cons_of_mem _ hu)) with e | h1
        · subst e; exact (List.lt_irrefl _ (hm1.1 u hu)).elim
        · exact h1
    rw [this]
theorem not_both {l : List ByteArray} {B C : Nat} {S : Tx} (h : LIs ([], true) B S) (k : LIs (l, false) C S) : False := by
  obtain ⟨-, ws, h1, h2, h3⟩ := h.lots rfl
  obtain ⟨-, k2, k3, -⟩ := k.few rfl
  have := nodup_le h1 (fun u hu => (k3 u).2 (h3 u hu))
  have k2' : l.length ≤ 64 := k2
  have k1 : ws.length ≤ l.length := this
  omega
theorem words_uniq {X Y : List Nat} {t : Rx} {w w' : World} {a a' : Option Addr} {n n' c c' : Nat} {ok ok' : Bool} {l l' : List ByteArray} (h : WordsIs X t w a n c ok l) (k : WordsIs Y t w' a' n' c' ok' l') : ok = ok' ∧ l = l' := by
  rcases h with ⟨h1, -, -, -, h2, h3⟩ | ⟨h1, h2, h3, h4, -, h5⟩ <;> rcases k with ⟨k1, -, -, -, k2, k3⟩ | ⟨k1, k2, k3, k4, -, k5⟩
  · exact ⟨h1.trans k1.symm, h2.trans k2.symm⟩
  · exact (not_both (h3 k2 k3 k4) k5).elim
  · exact (not_both (k3 h2 h3 h4) h5).elim
  · exact ⟨h1.trans k1.symm, srs_uniq (h5.few rfl).1 (k5.few rfl).1 fun u => ((h5.few rfl).2.2.1 u).trans ((k5.few rfl).2.2.1 u).symm⟩
theorem words_rsl {X : List Nat} {t : Rx} {w : World} {a : Option Addr} {n c : Nat} {ok : Bool} {l : List ByteArray} (h : WordsIs X t w a n c ok l) : RSl 1 RTs X w (.slice a n c) l ∧ l.length ≤ 64 := by
  rcases h with ⟨-, rfl, rfl, rfl, rfl, -⟩ | ⟨-, -, -, -, h5, h6⟩
  · exact ⟨own_rts (zs := []) (OwnS.nil _ _ _) (fun g h => by cases h), Nat.zero_le _⟩
  · exact ⟨h5, h6.len⟩
theorem sample_a {w : World} {a : Option Addr} {n c : Nat} {ok : Bool} {l : List ByteArray} (h : WordsIs [] (litX 97) w a n c ok l) : ok = true ∧ l = [aT] := by
  have hok := litX_ok (r := 97) (by decide) (by decide)
  have h1 : LIs (lone aT) 1 (Tg (litX 97)) := (LIs.one aT (by decide)).congr fun u => (litA_tg u).symm
  rcases h with ⟨-, -, -, -, -, h⟩ | ⟨h2, -, -, -, h5, h6⟩
  · exact (not_both (h hok (by rw [litA_esz]; decide) litA_nolook) h1).elim
  · exact ⟨h2, srs_uniq (h6.few rfl).1 (h1.few rfl).1 fun u => ((h6.few rfl).2.2.1 u).trans ((h1.few rfl).2.2.1 u).symm⟩
theorem pref_a : prefT (litX 97) = aT := by
  have hok := litX_ok (r := 97) (by decide) (by decide)
  rw [prefT, if_pos ⟨hok, by rw [litA_esz]; decide⟩, headR_eq, if_pos (show (litX 97).kind = 2 from rfl)]
  show txt (if IsR 97 then ([(97 : Int)], true) else ([], false)).1 = _
  rw [if_pos isR97]
  show txt [97] = _
  rw [← form97]; simp [txt, frm]
def epsX : Rx := .mk 1 0 [] 0 0 false 0 (ByteArray.mk #[]) []
theorem eps_rx (X : List Nat) (w : World) : RRx 1 X w [iv 1, .int .i32 0, .slice none 0 0, iv 0, iv 0, .bool false, iv 0, .string (ByteArray.mk #[]), .slice none 0 0] epsX := ⟨_, _, rfl, rnil0, rnil0, Nat.zero_le _, Nat.zero_le _, Nat.zero_le _⟩
theorem eps_ok : epsX.Ok := by
  have hp : NodeP epsX := ⟨by show (1 : Int) ≤ 1; decide, by show (1 : Int) ≤ 13; decide, .inr rfl, .inr rfl, .inr ⟨rfl, rfl, rfl⟩, .inr ⟨rfl, rfl⟩, fun h => absurd (show (1 : Int) = 2 from h) (by decide), fun h => absurd (show (1 : Int) = 3 from h) (by decide), fun h => absurd (show (1 : Int) = 4 ∨ (1 : Int) = 5 from h) (by decide), fun h => absurd (show (1 : Int) = 6 from h) (by decide), fun h => absurd (show (1 : Int) = 7 from h) (by decide), fun _ => rfl⟩
  refine ⟨(1, []), ?_⟩
  rw [fine_yes (x := epsX) (b := 0) (st := (0, [])) ⟨by decide, by show (if (1 : Int) = 7 then _ else _) ≤ 250; decide, hp, fun h => absurd (show (1 : Int) = 7 from h) (by decide)⟩]
  show fineKids [] _ _ _ = _
  rw [fineKids]
  rfl
theorem eps_hol : tf (epsX.Ok ∧ Hol epsX) = true := tf_iff.2 ⟨eps_ok, tf_iff.1 (hol_yes (t := epsX) (by show ¬ ((1 : Int) = 2 ∨ (1 : Int) = 3 ∨ (1 : Int) = 12); omega) (by show ¬ ((1 : Int) = 4 ∨ (1 : Int) = 5 ∨ (1 : Int) = 6 ∨ (1 : Int) = 7); omega))⟩
set_option maxHeartbeats 8000000 in
theorem tells_law {n : Nat} {w : World} {vs : List Value} {t : Rx} (hx : RRx n [] w vs t) :
    Calls Tryz.prog 3 #[.agg vs.toArray] w (Ret fun v w' => v = .bool true ∧ Evo [] w w') := by
  have hx0 := hx; obtain ⟨m, xa, xc, ka, kc, hm, rfl, hrg, hk, bl1, bl2, bl3⟩ := hx.get; refine calls_of_cw (N := 64) Tryz.func3 rfl rfl rfl ?_; refine cw_seq ?_; refine cw_region ?_; refine wl_boxA rfl rfl fun b1 w1 hB2 hs3 hw4 => ?_; have hsz_b1 := hs3; have hG5 := Ge.new (Evo.refl [] w) hs3; have hE6 := (Evo.refl [] w).then hw4; refine wl_a ?_; refine wl_nil (nrm_then ?_); refine cw_seq ?_; refine cw_region ?_; refine wl_call1 (vs := [_]) Tryz.goes9 rfl (lit_ok 97) rfl ?_; rintro _ w7 ⟨rfl, hw8⟩; have hE9 := hE6.then hw8; have hB10 := hw8.blk0 hB2; refine wl_call1 (vs := [_]) Tryz.goes8 rfl (words_ok (X := []) (fun b hb => by cases hb) (n := 1) (t := litX 97) (litX_rx 97 _ _)) rfl ?_; rintro _ w11 ⟨a1, k1, c1, ok1, l1, rfl, hW1, hw12⟩; have hE13 := hE9.then hw12; have hB14 := hw12.blk0 hB10; obtain ⟨rfl, rfl⟩ := sample_a hW1; have hr1 := words_rsl hW1; refine wl_m ?_; refine wl_val rfl (ex_extract rfl rfl) ?_; refine wl_val rfl (ex_extract rfl rfl) ?_; refine wl_a ?_; refine wl_a ?_; refine wl_nil (nrm_then ?_); refine cw_seq ?_; refine cw_seq ?_; refine cw_region ?_; refine wl_m ?_; refine wl_val rfl (ex_notb rfl) ?_; refine wl_m ?_; refine wl_g ?_; refine wl_m ?_; refine wl_g ?_; refine wl_bslice (vs := [_]) rfl Tryz.slice26 rfl rfl rfl rfl fun b15 w16 hO17 hs18 hw19 => ?_; have hA20 := Apart.new (Lt.blk hB14) hs18; have hG21 := Ge.new hE13 hs18; have hG22 := Ge.new (Evo.refl ([]) w11) hs18; have hE23 := hE13.then hw19; have hE24 := (Evo.refl ([]) w11).then hw19; have hB25 := hw19.blk0 hB14; refine wl_g ?_
  refine wl_call1 (vs := [_, _]) Tryz.goes10 rfl (sameTexts_ok (Y := []) (l := [aT]) (m := [aT]) (RSl.evo RTs.pers hE24 hr1.1) (own_rts (zs := [aT]) hO17 (fun g hg hm => by cases hm)) (by show 1 ≤ _; decide) (by show 1 ≤ _; decide)) rfl ?_
  rintro _ w26 ⟨rfl, hw27⟩; have hE28 := hE23.then hw27; have hE29 := hE24.then hw27; have hB30 := hw27.blk0 hB25; have hO31 := hO17.evo0 hw27; refine wl_g ?_; refine wl_val rfl (ex_not rfl) ?_; refine wl_pf ?_; refine wl_m ?_; refine wl_split (t := 20) rfl (fun hs20 => ?_) (fun hs20 => ?_)
  ·skip
   exact (hs20 rfl).elim
  ·skip
   refine wl_g ?_; refine wl_call1 (vs := [_]) Tryz.goes9 rfl (lit_ok 97) rfl ?_; rintro _ w32 ⟨rfl, hw33⟩; have hE34 := hE28.then hw33; have hE35 := hE29.then hw33; have hB36 := hw33.blk0 hB30; have hO37 := hO31.evo0 hw33; refine wl_g ?_; refine wl_call1 (vs := [_]) Tryz.goes11 rfl (prefixx_ok (n := 1) (t := litX 97) (litX_rx 97 _ _)) rfl ?_; rintro _ w38 ⟨rfl, hw39⟩; have hE40 := hE34.then hw39; have hE41 := hE35.then hw39; have hB42 := hw39.blk0 hB36; have hO43 := hO37.evo0 hw39; rw [pref_a]; refine wl_g ?_; refine wl_val rfl (ex_neqs rfl rfl) ?_; refine wl_pf ?_; refine wl_m ?_; refine wl_split (t := 25) rfl (fun hs25 => ?_) (fun hs25 => ?_)
   ·skip
    exact (hs25 rfl).elim
   ·skip
    refine wl_g ?_; refine wl_val rfl (ex_build (vs := [(0, _)]) Tryz.build25 rfl (cells := [_, _, _, _, _, _, _, _, _]) rfl) ?_; refine wl_g ?_; refine wl_call1 (vs := [_]) Tryz.goes12 rfl (Hollow_ok (n := 1) (t := epsX) (eps_rx _ _)) rfl ?_; rintro _ w44 ⟨rfl, hw45⟩; have hE46 := hE40.then hw45; have hE47 := hE41.then hw45; have hB48 := hw45.blk0 hB42; have hO49 := hO43.evo0 hw45; rw [eps_hol]; refine wl_g ?_; refine wl_val rfl (ex_notb rfl) ?_; refine wl_pf ?_; refine wl_nil (nrm_then ?_); refine cw_false rfl ?_; refine cw_skip (nrm_then ?_); refine cw_seq ?_; refine cw_seq ?_; refine cw_region ?_; refine wl_val rfl (ex_loadBlk rfl Tryz.agg25 Tryz.size25 hB48 rfl) ?_; refine wl_call1 (vs := [_]) Tryz.goes13 rfl (wide_ok (RRx.pers _ _ _ _ _ _ hE46 hx0)) rfl ?_; rintro _ w50 ⟨wb, rfl, hw51⟩; have hE52 := hE46.then hw51; have hE53 := hE47.then hw51; have hB54 := hw51.blk0 hB48; refine wl_nil (nrm_then ?_); refine cw_ifb rfl (fun hc31 => ?_) (fun hc31 => ?_)
    ·skip
     refine cw_seq ?_; refine cw_region ?_; refine wl_a ?_; refine wl_nil (nrm_then ?_); refine cw_ret (ret_then (body_ret1 rfl rfl ?_)); exact ⟨rfl, hE52⟩
    ·skip
     refine cw_skip (nrm_then ?_); refine cw_seq ?_; refine cw_region ?_; refine wl_val rfl (ex_loadBlk rfl Tryz.agg25 Tryz.size25 hB54 rfl) ?_; refine wl_call1 (vs := [_]) Tryz.goes14 rfl (refWords_ok (RRx.pers _ _ _ _ _ _ hE52 hx0)) rfl ?_; rintro _ w55 ⟨a2, k2, c2, ok2, l2, rfl, hW2, hw56⟩; have hE57 := hE52.then hw56; have hE58 := hE53.then hw56; have hB59 := hw56.blk0 hB54; refine wl_m ?_; refine wl_val rfl (ex_extract rfl rfl) ?_; refine wl_val rfl (ex_extract rfl rfl) ?_; refine wl_a ?_; refine wl_a ?_; refine wl_nil (nrm_then ?_); refine cw_seq ?_; refine cw_region ?_; refine wl_val rfl (ex_loadBlk rfl Tryz.agg25 Tryz.size25 hB59 rfl) ?_; refine wl_call1 (vs := [_]) Tryz.goes8 rfl (words_ok (X := []) (fun b hb => by cases hb) (RRx.pers _ _ _ _ _ _ hE57 hx0)) rfl ?_; rintro _ w60 ⟨a3, k3, c3, ok3, l3, rfl, hW3, hw61⟩; have hE62 := hE57.then hw61; have hE63 := hE58.then hw61; have hE64 := (Evo.refl ([]) w55).then hw61; have hB65 := hw61.blk0 hB59; obtain ⟨rfl, rfl⟩ := words_uniq hW3 hW2; have hr2 := words_rsl hW2; have hr3 := words_rsl hW3
     have hl3 : l3.length ≤ 140737488351232 := by omega
     refine wl_m ?_; refine wl_val rfl (ex_extract rfl rfl) ?_; refine wl_val rfl (ex_extract rfl rfl) ?_; refine wl_a ?_; refine wl_a ?_; refine wl_nil (nrm_then ?_); refine cw_seq ?_; refine cw_any (fun w0 w' => Evo [] w0 w') (by kernel_rfl) (fun w66 hw67 => ?_); have hE68 := hE62.then hw67; have hE69 := hE63.then hw67; have hE70 := hE64.then hw67; have hE71 := (Evo.refl ([]) w60).then hw67; have hB72 := hw67.blk0 hB65; refine ae_take 0 rfl (by kernel_rfl) (by kernel_rfl) (by kernel_rfl) rfl (fun _ hS => ex_move rfl) (Evo.refl [] w66) ?_; refine ae_take 1 rfl (by kernel_rfl) (by kernel_rfl) (by kernel_rfl) rfl (fun _ hS => ex_move rfl) (Evo.refl [] w66) ?_; refine ae_take 2 rfl (by kernel_rfl) (by kernel_rfl) (by kernel_rfl) rfl (fun _ hS => ex_eqB rfl rfl Tryz.underlying4) (Evo.refl [] w66) ?_; refine ae_take 3 rfl (by kernel_rfl) (by kernel_rfl) (by kernel_rfl) rfl (fun _ hS => ex_move rfl) (Evo.refl [] w66) ?_; refine ae_splitb (t := 45) rfl (fun hs45 => ?_) (fun hs45 => ?_)
     ·skip
      refine ae_takeG 4 rfl rfl rfl rfl rfl (by kernel_rfl) (by kernel_rfl) (by kernel_rfl) rfl (fun _ hS => ex_move rfl) (Evo.refl [] w66) ?_; refine ae_takeG 5 rfl rfl rfl rfl rfl (by kernel_rfl) (by kernel_rfl) (by kernel_rfl) rfl (fun _ hS => ex_move rfl) (Evo.refl [] w66) ?_; refine ae_loud [6] (by kernel_rfl) rfl ⟨?_, trivial⟩; refine a_step rfl ?_; refine wl_g ?_; refine wl_call1 (vs := [_, _]) Tryz.goes10 rfl (sameTexts_ok (RSl.evo RTs.pers hE71 hr3.1) (RSl.evo RTs.pers hE70 hr2.1) hl3 hl3) rfl ?_; rintro _ w73 ⟨rfl, hw74⟩; have hE75 := hE68.then hw74; have hE76 := hE69.then hw74; have hE77 := hE70.then hw74; have hE78 := hE71.then hw74; have hE79 := (Evo.refl [] w66).then hw74; have hB80 := hw74.blk0 hB72; refine wl_nil (ae_next (.inl hE79) ?_); refine ae_take 7 rfl (by kernel_rfl) (by kernel_rfl) (by kernel_rfl) rfl (fun _ hS => ex_pick_t rfl rfl) hE79 ?_; refine ae_take 8 rfl (by kernel_rfl) (by kernel_rfl) (by kernel_rfl) rfl (fun _ hS => ex_move rfl) hE79 ?_; refine ae_split (t := 50) rfl (fun hs50 => ?_) (fun hs50 => ?_)
      ·skip
       refine ae_takeG 9 rfl rfl rfl rfl rfl (by kernel_rfl) (by kernel_rfl) (by kernel_rfl) rfl (fun _ hS => ex_loadBlk rfl Tryz.agg25 Tryz.size25 (hS.blk0 hB72) rfl) hE79 ?_; refine ae_takeG 11 rfl rfl rfl rfl rfl (by kernel_rfl) (by kernel_rfl) (by kernel_rfl) rfl (fun _ hS => ex_loadBlk rfl Tryz.agg25 Tryz.size25 (hS.blk0 hB72) rfl) hE79 ?_; refine ae_loud [10] (by kernel_rfl) rfl ⟨?_, trivial⟩; refine a_step rfl ?_; refine wl_g ?_; refine wl_call1 (vs := [_]) Tryz.goes11 rfl (prefixx_ok (RRx.pers _ _ _ _ _ _ hE75 hx0)) rfl ?_; rintro _ w81 ⟨rfl, hw82⟩; have hE83 := hE75.then hw82; have hE84 := hE76.then hw82; have hE85 := hE77.then hw82; have hE86 := hE78.then hw82; have hE87 := hE79.then hw82; have hB88 := hw82.blk0 hB80; refine wl_nil (ae_next (.inl hE87) ?_); refine ae_loud [12] (by kernel_rfl) rfl ⟨?_, trivial⟩; refine a_step rfl ?_; refine wl_g ?_; refine wl_call1 (vs := [_]) Tryz.goes15 rfl (refPrefix_ok (RRx.pers _ _ _ _ _ _ hE83 hx0)) rfl ?_; rintro _ w89 ⟨rfl, hw90⟩; have hE91 := hE83.then hw90; have hE92 := hE84.then hw90; have hE93 := hE85.then hw90; have hE94 := hE86.then hw90; have hE95 := hE87.then hw90; have hB96 := hw90.blk0 hB88; refine wl_nil (ae_next (.inl hE95) ?_); refine ae_takeG 13 rfl rfl rfl rfl rfl (by kernel_rfl) (by kernel_rfl) (by kernel_rfl) rfl (fun _ hS => ex_eqs rfl rfl) hE95 ?_; refine ae_take 14 rfl (by kernel_rfl) (by kernel_rfl) (by kernel_rfl) rfl (fun _ hS => ex_pick_t rfl rfl) hE95 ?_; refine ae_take 15 rfl (by kernel_rfl) (by kernel_rfl) (by kernel_rfl) rfl (fun _ hS => ex_move rfl) hE95 ?_; refine ae_split (t := 57) rfl (fun hs57 => ?_) (fun hs57 => ?_)
       ·skip
        refine ae_takeG 16 rfl rfl rfl rfl rfl (by kernel_rfl) (by kernel_rfl) (by kernel_rfl) rfl (fun _ hS => ex_loadBlk rfl Tryz.agg25 Tryz.size25 (hS.blk0 hB72) rfl) hE95 ?_; refine ae_takeG 18 rfl rfl rfl rfl rfl (by kernel_rfl) (by kernel_rfl) (by kernel_rfl) rfl (fun _ hS => ex_loadBlk rfl Tryz.agg25 Tryz.size25 (hS.blk0 hB72) rfl) hE95 ?_; refine ae_loud [17] (by kernel_rfl) rfl ⟨?_, trivial⟩; refine a_step rfl ?_; refine wl_g ?_; refine wl_call1 (vs := [_]) Tryz.goes12 rfl (Hollow_ok (RRx.pers _ _ _ _ _ _ hE91 hx0)) rfl ?_; rintro _ w97 ⟨rfl, hw98⟩; have hE99 := hE91.then hw98; have hE100 := hE92.then hw98; have hE101 := hE93.then hw98; have hE102 := hE94.then hw98; have hE103 := hE95.then hw98; have hB104 := hw98.blk0 hB96; refine wl_nil (ae_next (.inl hE103) ?_); refine ae_loud [19] (by kernel_rfl) rfl ⟨?_, trivial⟩; refine a_step rfl ?_; refine wl_g ?_; refine wl_call1 (vs := [_]) Tryz.goes16 rfl (rHollow_ok (RRx.pers _ _ _ _ _ _ hE99 hx0)) rfl ?_; rintro _ w105 ⟨rfl, hw106⟩; have hE107 := hE99.then hw106; have hE108 := hE100.then hw106; have hE109 := hE101.then hw106; have hE110 := hE102.then hw106; have hE111 := hE103.then hw106; have hB112 := hw106.blk0 hB104; refine wl_nil (ae_next (.inl hE111) ?_); refine ae_takeG 20 rfl rfl rfl rfl rfl (by kernel_rfl) (by kernel_rfl) (by kernel_rfl) rfl (fun _ hS => ex_eqB rfl rfl Tryz.underlying4) hE111 ?_; refine ae_take 21 rfl (by kernel_rfl) (by kernel_rfl) (by kernel_rfl) rfl (fun _ hS => ex_pick_t rfl rfl) hE111 ?_; refine ae_take 22 rfl (by kernel_rfl) (by kernel_rfl) (by kernel_rfl) rfl (fun _ hS => ex_assign rfl) hE111 ?_; refine ae_done (by kernel_rfl) (nrm_then ?_); refine cw_ret (body_ret1 rfl rfl ?_); exact ⟨congrArg Value.bool (by simp), hE107⟩
       ·skip
        exact (hs57 rfl).elim
      ·skip
       exact (hs50 rfl).elim
     ·skip
      exfalso; simp at hs45
end Go.Proofs.YtgnpldackjbdjaaGreat
namespace Go.W
set_option linter.unusedSimpArgs false
set_option linter.unusedVariables false
def Opens {α : Type} (P : Program) (t : TypeId) (R : Rel α) : Prop :=
  ∀ (H : Type) (enc : TypeId × Value → H) (w : World) (fuel : Nat) (cs : List Value) (x : DataW H × List MemPlace), DataW.trod enc P w 0 (fun _ => true) true fuel t cs = some x →
    (∀ n, n ∈ x.1.weights P t → n ≤ reachBytes) → ∃ d, R [] w cs d
theorem opens_int {P : Program} {t : TypeId} {k : IntKind} (ht : P.underlying t = some (.int k)) : Opens P t (RInt k) := by
  intro H enc w fuel cs x h _
  obtain ⟨n, hcs, _, hw⟩ := DataW.trod_int ht h
  refine ⟨n, hcs, ?_⟩
  simpa [Lit.wf] using hw
theorem opens_bool {P : Program} {t : TypeId} (ht : P.underlying t = some .bool) : Opens P t RBool := by
  intro H enc w fuel cs x h _
  obtain ⟨b, hcs, _⟩ := DataW.trod_bool ht h
  exact ⟨b, hcs⟩
def RStrB : Rel ByteArray := fun _ _ vs s => vs = [.string s] ∧ s.size ≤ 140737488351232
theorem opens_str {P : Program} {t : TypeId} (ht : P.underlying t = some .string) : Opens P t RStrB := by
  intro H enc w fuel cs x h hw
  obtain ⟨s, hcs, rfl, _⟩ := DataW.trod_string ht h
  refine ⟨s, hcs, ?_⟩
  have := hw s.data.toList.length (by simp [DataW.weights])
  simpa [reachBytes] using this
theorem cells?_at {w : World} {a : Addr} {n : Nat} {vs : List Value} (h : w.cells? 0 a n = some vs) : vs.length = n ∧ ∀ j v, vs[j]? = some v → w.cell? (a.add j) = some v := by
  unfold World.cells? at h
  rw [if_pos (Nat.zero_le _)] at h
  have hl := mapM_some_length h
  refine ⟨by simpa using hl, fun j v hv => ?_⟩
  have hj : j < n := by have := (List.getElem?_eq_some_iff.1 hv).1; simp at hl; omega
  have := mapM_some_get h j j (by simp [hj])
  rw [hv] at this
  exact this
theorem weights_all {H : Type} {P : Program} {e : TypeId} : ∀ {l : List (DataW H)} {d : DataW H}, d ∈ l → ∀ n, n ∈ d.weights P e → n ∈ DataW.weightsAll P e l
  | [], _, h, _, _ => by cases h
  | x :: l, d, h, n, hn => by
    simp only [DataW.weightsAll, List.mem_append]
    rcases List.mem_cons.1 h with rfl | h
    · exact .inl hn
    · exact .inr (weights_all h n hn)
def RSlB {α : Type} (sz bytes : Nat) (R : Rel α) : Rel (List α) := fun X w vs ds => ∃ v, vs = [v] ∧ RSl sz R X w v ds ∧ ds.length * bytes ≤ 140737488351232
theorem opens_slice {α : Type} {P : Program} {t e : TypeId} {R : Rel α} {sz bytes : Nat} (ht : P.underlying t = some (.slice e)) (hs : P.cellsOf e = sz) (hb : P.bytesOf e = bytes) (h0 : 0 < sz) (hR : Opens P e R) : Opens P t (RSlB sz bytes R) := by
  subst hs hb
  intro H enc w fuel cs x h hw
  rcases DataW.trod_slice ht h with ⟨rfl, rfl⟩ | ⟨a, len, cap, elems, rest, n, rfl, rfl, rfl, _, hle, _, hel, hat, _, _⟩
  · exact ⟨[], .slice none 0 0, rfl, ⟨none, 0, rfl, Nat.le_refl _, fun k hk => by simp at hk⟩, by simp⟩
  · have hwl : (elems.length + rest.length) * P.bytesOf e ≤ 140737488351232 := by
      have := hw _ (by simp [DataW.weights, ht]; exact .inl rfl)
      simpa [reachBytes] using this
    have hwe : ∀ i (hi : i < elems.length) m, m ∈ (elems[i]).1.weights P e → m ≤ reachBytes := fun i hi m hm => by
      refine hw m ?_
      simp only [DataW.weights, ht, List.mem_cons, List.mem_append]
      exact .inr (.inl (weights_all (List.mem_map.2 ⟨elems[i], List.getElem_mem hi, rfl⟩) m hm))
    have key : ∀ i (hi : i < len), ∃ b o vs d, a = ⟨b, o, none⟩ ∧ vs.length = P.cellsOf e ∧ CellsAt w b (o + i * P.cellsOf e) vs ∧ R [] w vs d := by
      intro i hi
      have h1 := hat i hi
      have hi' : i < elems.length := by omega
      rw [List.getElem?_eq_getElem hi'] at h1
      obtain ⟨vs, hvs, htr⟩ := Option.bind_eq_some_iff.1 h1
      obtain ⟨hl, hc⟩ := cells?_at hvs
      obtain ⟨d, hd⟩ := hR H enc w n vs _ htr (hwe i hi')
      obtain ⟨b, o, spot⟩ := a
      have hspot : spot = none := by
        cases vs with
        | nil => simp at hl; omega
        | cons v0 vs =>
          have h2 := hc 0 v0 (by simp)
          have h3 := World.cell?_spot h2
          by_cases hz : i * P.cellsOf e = 0
          · rw [hz] at h3; simpa [Addr.add] using h3
          · have hz' : i * P.cellsOf e ≠ 0 := hz
            have hat0 := hat 0 (by omega)
            rw [List.getElem?_eq_getElem (by omega)] at hat0
            obtain ⟨us, hus, _⟩ := Option.bind_eq_some_iff.1 hat0
            obtain ⟨hul, huc⟩ := cells?_at hus
            cases us with
            | nil => simp at hul; omega
            | cons u0 us =>
              have h4 := World.cell?_spot (huc 0 u0 (by simp))
              simpa [Addr.add] using h4
      subst hspot
      refine ⟨b, o, vs, d, rfl, hl, fun j v hv => ?_, hd⟩
      have h2 := hc j v hv
      have hadd : ((⟨b, o, none⟩ : Addr).add (i * P.cellsOf e)).add j = ⟨b, o + i * P.cellsOf e + j, none⟩ := by
        unfold Addr.add
        split <;> split <;> simp_all
      rw [hadd] at h2
      exact h2
    have hex : ∀ m, m ≤ len → ∃ ds : List α, ds.length = m ∧ ∀ k (hk : k < ds.length), ∃ b o vs, some a = some ⟨b, o, none⟩ ∧ b ∉ ([] : List Nat) ∧ vs.length = P.cellsOf e ∧ CellsAt w b (o + k * P.cellsOf e) vs ∧ R [] w vs ds[k] := by
      intro m
      induction m with
      | zero => exact fun _ => ⟨[], rfl, fun k hk => by simp at hk⟩
      | succ m ih =>
        intro hm
        obtain ⟨ds, hl, hds⟩ := ih (by omega)
        obtain ⟨b, o, vs, d, ha, h1, h2, h3⟩ := key m (by omega)
        refine ⟨ds ++ [d], by simp [hl], fun k hk => ?_⟩
        by_cases hkm : k < ds.length
        · rw [List.getElem_append_left hkm]; exact hds k hkm
        · obtain rfl : k = m := by simp at hk; omega
          rw [List.getElem_append_right (by omega)]
          simp only [hl, Nat.sub_self, List.getElem_cons_zero]
          exact ⟨b, o, vs, by rw [ha], by simp, h1, h2, h3⟩
    obtain ⟨ds, hl, hds⟩ := hex len (Nat.le_refl _)
    refine ⟨ds, .slice (some a) len cap, rfl, ⟨some a, cap, by rw [hl], by omega, hds⟩, ?_⟩
    rw [hl, ← hel]
    exact Nat.le_trans (Nat.mul_le_mul_right _ (Nat.le_add_right _ _)) hwl
theorem weights_field {H : Type} {P : Program} {t : TypeId} {fs : Array Field} (ht : P.underlying t = some (.struct fs)) {xs : List (DataW H)} {i : Nat} {f : Field} {d : DataW H} (hf : fs[i]? = some f) (hd : xs[i]? = some d) : ∀ n, n ∈ d.weights P f.type → n ∈ (DataW.agg xs).weights P t := fun n hn => by
  simp only [DataW.weights, ht]
  exact DataW.weights_mem_each (j := i) (by simp [hf]) hd n hn
theorem opens_field {α H : Type} {P : Program} {t : TypeId} {fs : Array Field} {enc : TypeId × Value → H} {w : World} {fuel : Nat} {cs : List Value} {x : DataW H × List MemPlace} (ht : P.underlying t = some (.struct fs))
    (h : DataW.trod enc P w 0 (fun _ => true) true fuel t cs = some x) (hw : ∀ n, n ∈ x.1.weights P t → n ≤ reachBytes) (i : Nat) {f : Field} (hf : fs[i]? = some f) {R : Rel α} (hR : Opens P f.type R) : ∃ d, R [] w ((cs.drop f.offset).take (P.cellsOf f.type)) d := by
  obtain ⟨xs, n, rfl, rfl, hl, hlen, hx⟩ := DataW.trod_struct ht h
  have hi : i < xs.length := by rw [hlen]; exact (Array.getElem?_eq_some_iff.1 hf).1
  have h1 := hx i f hf
  rw [List.getElem?_eq_getElem hi] at h1
  exact hR H enc w n _ _ h1 (fun m hm => hw m (weights_field ht hf (by simp [hi]) m hm))
theorem opens_fieldN {α H : Type} {P : Program} {t T off m : Nat} {fs : Array Field} {enc : TypeId × Value → H} {w : World} {fuel : Nat} {cs : List Value} {x : DataW H × List MemPlace} (ht : P.underlying t = some (.struct fs))
    (h : DataW.trod enc P w 0 (fun _ => true) true fuel t cs = some x) (hw : ∀ n, n ∈ x.1.weights P t → n ≤ reachBytes) (i : Nat) {f : Field} (hf : fs[i]? = some f) (hT : f.type = T) (ho : f.offset = off) (hm : P.cellsOf T = m) {R : Rel α} (hR : Opens P T R) : ∃ d, R [] w ((cs.drop off).take m) d := by
  subst hT ho hm
  exact opens_field ht h hw i hf hR
theorem opens_len {H : Type} {P : Program} {t : TypeId} {fs : Array Field} {enc : TypeId × Value → H} {w : World} {fuel : Nat} {cs : List Value} {x : DataW H × List MemPlace} (ht : P.underlying t = some (.struct fs))
    (h : DataW.trod enc P w 0 (fun _ => true) true fuel t cs = some x) : cs.length = P.cellsOf t := by
  obtain ⟨_, _, _, _, hl, _⟩ := DataW.trod_struct ht h
  exact hl
end Go.W
namespace Go.W
open Go.RowKit Go.ChangeShapes
set_option linter.unusedVariables false
set_option linter.unusedSimpArgs false
def OpensF {α : Type} (F : Nat) (P : Program) (t : TypeId) (R : Rel α) : Prop :=
  ∀ (H : Type) (enc : TypeId × Value → H) (w : World) (fuel : Nat) (cs : List Value) (x : DataW H × List MemPlace), fuel ≤ F → DataW.trod enc P w 0 (fun _ => true) true fuel t cs = some x →
    (∀ n, n ∈ x.1.weights P t → n ≤ reachBytes) → ∃ d, R [] w cs d
theorem Opens.fuel {α : Type} {P : Program} {t : TypeId} {R : Rel α} (h : Opens P t R) (F : Nat) : OpensF F P t R := fun H enc w fuel cs x _ h1 h2 => h H enc w fuel cs x h1 h2
theorem OpensF.all {α : Type} {P : Program} {t : TypeId} {R : Rel α} (h : ∀ F, OpensF F P t R) : Opens P t R := fun H enc w fuel cs x h1 h2 => h fuel H enc w fuel cs x (Nat.le_refl _) h1 h2
theorem opensF_slice {α : Type} {F : Nat} {P : Program} {t e : TypeId} {R : Rel α} {sz bytes : Nat} (ht : P.underlying t = some (.slice e)) (hs : P.cellsOf e = sz) (hb : P.bytesOf e = bytes) (h0 : 0 < sz) (hR : OpensF F P e R) : OpensF F P t (RSlB sz bytes R) := by
  subst hs hb
  intro H enc w fuel cs x hfu h hw
  rcases DataW.trod_slice ht h with ⟨rfl, rfl⟩ | ⟨a, len, cap, elems, rest, n, rfl, rfl, rfl, _, hle, _, hel, hat, _, _⟩
  · exact ⟨[], .slice none 0 0, rfl, ⟨none, 0, rfl, Nat.le_refl _, fun k hk => by simp at hk⟩, by simp⟩
  · have hwl : (elems.length + rest.length) * P.bytesOf e ≤ 140737488351232 := by
      have := hw _ (by simp [DataW.weights, ht]; exact .inl rfl)
      simpa [reachBytes] using this
    have hwe : ∀ i (hi : i < elems.length) m, m ∈ (elems[i]).1.weights P e → m ≤ reachBytes := fun i hi m hm => by
      refine hw m ?_
      simp only [DataW.weights, ht, List.mem_cons, List.mem_append]
      exact .inr (.inl (weights_all (List.mem_map.2 ⟨elems[i], List.getElem_mem hi, rfl⟩) m hm))
    have key : ∀ i (hi : i < len), ∃ b o vs d, a = ⟨b, o, none⟩ ∧ vs.length = P.cellsOf e ∧ CellsAt w b (o + i * P.cellsOf e) vs ∧ R [] w vs d := by
      intro i hi
      have h1 := hat i hi
      have hi' : i < elems.length := by omega
      rw [List.getElem?_eq_getElem hi'] at h1
      obtain ⟨vs, hvs, htr⟩ := Option.bind_eq_some_iff.1 h1
      obtain ⟨hl, hc⟩ := cells?_at hvs
      obtain ⟨d, hd⟩ := hR H enc w n vs _ (by omega) htr (hwe i hi')
      obtain ⟨b, o, spot⟩ := a
      have hspot : spot = none := by
        cases vs with
        | nil => simp at hl; omega
        | cons v0 vs =>
          have h2 := hc 0 v0 (by simp)
          have h3 := World.cell?_spot h2
          by_cases hz : i * P.cellsOf e = 0
          · rw [hz] at h3; simpa [Addr.add] using h3
          · have hz' : i * P.cellsOf e ≠ 0 := hz
            have hat0 := hat 0 (by omega)
            rw [List.getElem?_eq_getElem (by omega)] at hat0
            obtain ⟨us, hus, _⟩ := Option.bind_eq_some_iff.1 hat0
            obtain ⟨hul, huc⟩ := cells?_at hus
            cases us with
            | nil => simp at hul; omega
            | cons u0 us =>
              have h4 := World.cell?_spot (huc 0 u0 (by simp))
              simpa [Addr.add] using h4
      subst hspot
      refine ⟨b, o, vs, d, rfl, hl, fun j v hv => ?_, hd⟩
      have h2 := hc j v hv
      have hadd : ((⟨b, o, none⟩ : Addr).add (i * P.cellsOf e)).add j = ⟨b, o + i * P.cellsOf e + j, none⟩ := by
        unfold Addr.add
        split <;> split <;> simp_all
      rw [hadd] at h2
      exact h2
    have hex : ∀ m, m ≤ len → ∃ ds : List α, ds.length = m ∧ ∀ k (hk : k < ds.length), ∃ b o vs, some a = some ⟨b, o, none⟩ ∧ b ∉ ([] : List Nat) ∧ vs.length = P.cellsOf e ∧ CellsAt w b (o + k * P.cellsOf e) vs ∧ R [] w vs ds[k] := by
      intro m
      induction m with
      | zero => exact fun _ => ⟨[], rfl, fun k hk => by simp at hk⟩
      | succ m ih =>
        intro hm
        obtain ⟨ds, hl, hds⟩ := ih (by omega)
        obtain ⟨b, o, vs, d, ha, h1, h2, h3⟩ := key m (by omega)
        refine ⟨ds ++ [d], by simp [hl], fun k hk => ?_⟩
        by_cases hkm : k < ds.length
        · rw [List.getElem_append_left hkm]; exact hds k hkm
        · obtain rfl : k = m := by simp at hk; omega
          rw [List.getElem_append_right (by omega)]
          simp only [hl, Nat.sub_self, List.getElem_cons_zero]
          exact ⟨b, o, vs, by rw [ha], by simp, h1, h2, h3⟩
    obtain ⟨ds, hl, hds⟩ := hex len (Nat.le_refl _)
    refine ⟨ds, .slice (some a) len cap, rfl, ⟨some a, cap, by rw [hl], by omega, hds⟩, ?_⟩
    rw [hl, ← hel]
    exact Nat.le_trans (Nat.mul_le_mul_right _ (Nat.le_add_right _ _)) hwl
theorem opensF_field {α H : Type} {F : Nat} {P : Program} {t : TypeId} {fs : Array Field} {enc : TypeId × Value → H} {w : World} {fuel : Nat} {cs : List Value} {x : DataW H × List MemPlace} (ht : P.underlying t = some (.struct fs))
    (h : DataW.trod enc P w 0 (fun _ => true) true fuel t cs = some x) (hw : ∀ n, n ∈ x.1.weights P t → n ≤ reachBytes) (i : Nat) {f : Field} (hf : fs[i]? = some f) {R : Rel α} (hfu : fuel ≤ F + 1) (hR : OpensF F P f.type R) : ∃ d, R [] w ((cs.drop f.offset).take (P.cellsOf f.type)) d := by
  obtain ⟨xs, n, rfl, rfl, hl, hlen, hx⟩ := DataW.trod_struct ht h
  have hi : i < xs.length := by rw [hlen]; exact (Array.getElem?_eq_some_iff.1 hf).1
  have h1 := hx i f hf
  rw [List.getElem?_eq_getElem hi] at h1
  exact hR H enc w n _ _ (by omega) h1 (fun m hm => hw m (weights_field ht hf (by simp [hi]) m hm))
theorem opensF_fieldN {α H : Type} {F : Nat} {P : Program} {t T off m : Nat} {fs : Array Field} {enc : TypeId × Value → H} {w : World} {fuel : Nat} {cs : List Value} {x : DataW H × List MemPlace} (ht : P.underlying t = some (.struct fs))
    (h : DataW.trod enc P w 0 (fun _ => true) true fuel t cs = some x) (hw : ∀ n, n ∈ x.1.weights P t → n ≤ reachBytes) (i : Nat) {f : Field} (hf : fs[i]? = some f) (hT : f.type = T) (ho : f.offset = off) (hm : P.cellsOf T = m) {R : Rel α} (hfu : fuel ≤ F + 1) (hR : OpensF F P T R) : ∃ d, R [] w ((cs.drop off).take m) d := by
  subst hT ho hm
  exact opensF_field ht h hw i hf hfu hR
end Go.W
namespace Go.Proofs.YtgnpldackjbdjaaGreat
open Go.Proofs
open Go.W Go.ChangeShapes Go.WideShapes Go.ChangeAt Go.RowKit
set_option linter.unusedVariables false
set_option linter.unusedSimpArgs false
set_option linter.unusedVariables false
theorem opens51 : Opens Tryz.prog 129 RRg := by
  intro H enc w fuel cs x h hw
  obtain ⟨a, ea, _⟩ := opens_fieldN (T := 21) (off := 0) (m := 1) Tryz.underlying129 h hw 0 rfl rfl rfl (by kernel_rfl) (opens_int Tryz.underlying21)
  obtain ⟨b, eb, _⟩ := opens_fieldN (T := 21) (off := 1) (m := 1) Tryz.underlying129 h hw 1 rfl rfl rfl (by kernel_rfl) (opens_int Tryz.underlying21)
  have hl := opens_len Tryz.underlying129 h
  rw [show Tryz.prog.cellsOf 129 = 2 from by kernel_rfl] at hl
  match cs, hl with
  | [c0, c1], _ =>
    simp at ea eb
    subst ea eb
    exact ⟨(a, b), rfl⟩
theorem opens22 : Opens Tryz.prog 22 (RSlB 2 8 RRg) := opens_slice Tryz.underlying22 (by kernel_rfl) (by kernel_rfl) (by decide) opens51
theorem openRx : ∀ F, OpensF F Tryz.prog 25 (RRx F)
  | 0 => fun H enc w fuel cs x hfu h hw => by
    obtain ⟨xs, n, h0, -⟩ := DataW.trod_struct Tryz.underlying25 h
    omega
  | F + 1 => fun H enc w fuel cs x hfu h hw => by
    have hk : OpensF F Tryz.prog 23 (RSlB 9 112 (RRx F)) := opensF_slice Tryz.underlying23 (by kernel_rfl) (by kernel_rfl) (by decide) (openRx F)
    obtain ⟨d0, e0, _⟩ := opens_fieldN (T := 3) (off := 0) (m := 1) Tryz.underlying25 h hw 0 rfl rfl rfl (by kernel_rfl) (opens_int Tryz.underlying3)
    obtain ⟨d1, e1, _⟩ := opens_fieldN (T := 21) (off := 1) (m := 1) Tryz.underlying25 h hw 1 rfl rfl rfl (by kernel_rfl) (opens_int Tryz.underlying21)
    obtain ⟨d2, v2, e2, h2, hl2⟩ := opens_fieldN (T := 22) (off := 2) (m := 1) Tryz.underlying25 h hw 2 rfl rfl rfl (by kernel_rfl) opens22
    obtain ⟨d3, e3, _⟩ := opens_fieldN (T := 3) (off := 3) (m := 1) Tryz.underlying25 h hw 3 rfl rfl rfl (by kernel_rfl) (opens_int Tryz.underlying3)
    obtain ⟨d4, e4, _⟩ := opens_fieldN (T := 3) (off := 4) (m := 1) Tryz.underlying25 h hw 4 rfl rfl rfl (by kernel_rfl) (opens_int Tryz.underlying3)
    obtain ⟨d5, e5⟩ := opens_fieldN (T := 4) (off := 5) (m := 1) Tryz.underlying25 h hw 5 rfl rfl rfl (by kernel_rfl) (opens_bool Tryz.underlying4)
    obtain ⟨d6, e6, _⟩ := opens_fieldN (T := 3) (off := 6) (m := 1) Tryz.underlying25 h hw 6 rfl rfl rfl (by kernel_rfl) (opens_int Tryz.underlying3)
    obtain ⟨d7, e7, hl7⟩ := opens_fieldN (T := 9) (off := 7) (m := 1) Tryz.underlying25 h hw 7 rfl rfl rfl (by kernel_rfl) (opens_str Tryz.underlying9)
    obtain ⟨d8, v8, e8, h8, hl8⟩ := opensF_fieldN (T := 23) (off := 8) (m := 1) Tryz.underlying25 h hw 8 rfl rfl rfl (by kernel_rfl) hfu hk
    replace e5 : (cs.drop 5).take 1 = [Value.bool d5] := e5
    have hl := opens_len Tryz.underlying25 h
    rw [show Tryz.prog.cellsOf 25 = 9 from by kernel_rfl] at hl
    match cs, hl with
    | [c0, c1, c2, c3, c4, c5, c6, c7, c8], _ =>
      simp at e0 e1 e2 e3 e4 e5 e6 e7 e8
      subst e0 e1 e2 e3 e4 e5 e6 e7 e8
      exact ⟨.mk d0 d1 d2 d3 d4 d5 d6 d7 d8, _, _, rfl, h2, h8, by show d2.length ≤ _; omega, hl7, by show d8.length ≤ _; omega⟩
theorem own : ownKnob Tryz.prog.godebug = none := by kernel_rfl
theorem laidOut : laidOutB Tryz.prog = true := by kernel_rfl
set_option maxRecDepth 100000 in
theorem lifted (os : Os) (started : os.Started) (H : Type) (enc : TypeId × Value → H) :
    ReturnsInHanded {} Tryz.checked os 3 .any (Rows.rxprogTellsSpec.pre6 enc Tryz.prog Tryz.f3 Rows.rxprogTellsRow.domain false) (Rows.rxprogTellsSpec.post enc Tryz.prog Tryz.f3 false true false false) := by
  refine returnsInHanded_of_change_sized (C := Tryz.checked) own started (by kernel_rfl) Tryz.func3
    (ChangeSpec.witness6 (enc := enc) (C := Tryz.checked) false ⟨#[], #[.agg #[.int .i64 0, .int .i32 0, .slice none 0 0, .int .i64 0, .int .i64 0, .bool false, .int .i64 0, .string ByteArray.empty, .slice none 0 0]], []⟩ 8 (by kernel_rfl) (by kernel_rfl) (by kernel_rfl) (by kernel_rfl)) ?_
  intro W base args ds gs before hval0 hW hcnd hsz0 _
  have hval : ∀ (j : Nat) t v, Tryz.f3.params[j]? = some t → args[j]? = some v → Value.okWide Tryz.prog W .any base t v := hval0
  have hsz : (DataW.weightsEach Tryz.prog (Tryz.f3.params.toList ++ Rows.rxprogTellsSpec.plain.varTypes Tryz.prog) (ds ++ gs)).all (· ≤ reachBytes) = true := hsz0
  have hW' := hW
  obtain ⟨p, q, hA0, hV, rfl, hfz, hnd⟩ := hW
  have hA : DataW.TrodAll enc Tryz.prog W 0 (fun _ => true) true Tryz.f3.params.toList args.toList ds p := hA0
  rw [Tryz.params3] at hA hval hsz
  obtain ⟨v0, vs0, d0, ds0, p0, q0, hargs, rfl, rfl, h0, r0⟩ := trodAll_cons hA
  obtain ⟨rfl, rfl, rfl⟩ := trodAll_nil r0
  obtain rfl : args = #[v0] := by cases args; simp_all
  obtain ⟨rfl, rfl⟩ := trodVars_none hV
  have k0 := h0
  have lt0 : ∀ x ∈ p0, x.block < W.heap.size := by obtain ⟨m, hm⟩ := k0; exact DataW.trod_lt m _ _ _ hm
  obtain ⟨fuel, hf⟩ := h0
  have hwt : ∀ n, n ∈ d0.weights Tryz.prog 25 → n ≤ reachBytes := fun n hn => by
    have := List.all_eq_true.1 hsz n (DataW.weights_mem_each (j := 0) rfl rfl n hn)
    simpa using this
  obtain ⟨pr, hpr⟩ := openRx fuel H enc W fuel _ _ (Nat.le_refl _) hf hwt
  have hv0 : v0 = .agg v0.cells.toList.toArray := by
    obtain ⟨m, ra, rc, ka, kc, -, hcs, -⟩ := hpr.get
    cases v0 <;> simp [Value.cells] at hcs ⊢
  rw [hv0]
  refine (tells_law hpr).mono fun e W' ⟨v, he, hv, bel⟩ => ?_
  subst he hv
  rw [← hv0]
  exact ⟨_, rfl, _, _, _, [], _, [], hW', trodAll_mk1 (shut_bool Tryz.underlying4 _), (trodAll_cons_mk (Below.trod laidOut (by kernel_rfl) (of_decide_eq_true (by kernel_rfl)) k0 bel.below lt0) trodAll_mk0), rfl, bel.below.frame _, fun h => by cases h⟩
theorem over : Rows.rxprogTellsRow.holds Tryz.pinned (OpenSpec.ofChange Rows.rxprogTellsSpec) :=
  OpenClaim.holds_of_wide 3 Tryz.f3 rfl rfl rfl rfl rfl rfl rfl ⟨rfl, rfl, rfl, rfl, rfl⟩ rfl rfl rfl rfl rfl (by kernel_rfl) Tryz.func3 (by kernel_rfl)
    (of_decide_eq_true (by kernel_rfl)) (by unfold Func.isWrapper; first | (rw [if_pos (by decide +kernel)]; kernel_rfl) | (rw [if_neg (by decide +kernel)]; exact ⟨rfl, rfl⟩))
    (fun os started H enc _ => lifted os started H enc)
theorem rxprogTells_holds : Rows.RxprogTellsSaid := over
#print axioms rxprogTells_holds
end Go.Proofs.YtgnpldackjbdjaaGreat
