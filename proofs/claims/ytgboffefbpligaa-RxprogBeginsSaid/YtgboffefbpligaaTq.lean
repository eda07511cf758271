/- The reference's runes: Valid, All, Runes. -/
import Derived.Test.YtgboffefbpligaaTp
import Derived.Test.YtgboffefbpligaaTo
namespace Go.Proofs.Ytgboffefbpligaa
open Go.Proofs
open Go.W Go.RowKit
attribute [local irreducible] Decidable.decide
set_option linter.unusedSimpArgs false
set_option linter.unusedVariables false
theorem Try.agg46 : aggB Try.prog 46 = some false := by kernel_rfl
theorem Try.agg58 : aggB Try.prog 58 = some false := by kernel_rfl
theorem Try.app58_58 : appB Try.prog 58 58 = some (21, 1, 4) := by kernel_rfl
theorem Try.goes41 : Goes Try.prog 41 := ⟨_, Try.func41, by kernel_rfl, by kernel_rfl⟩
theorem Try.goes42 : Goes Try.prog 42 := ⟨_, Try.func42, by kernel_rfl, by kernel_rfl⟩
theorem Try.goes60 : Goes Try.prog 60 := ⟨_, Try.func60, by kernel_rfl, by kernel_rfl⟩
theorem Try.slice58 : sliceB Try.prog 58 = some (21, 1) := by kernel_rfl


abbrev i32s (l : List Int) : List Value := l.map fun c => Value.int .i32 c
theorem offs_ge {s : ByteArray} {k : Nat} (h : ∀ j, j < k → 0 < (nextR s (offs s j)).2) : k ≤ offs s k := by
  induction k with
  | zero => exact Nat.zero_le _
  | succ k ih =>
    have h1 := ih (fun j hj => h j (by omega))
    have h2 := h k (by omega)
    rw [offs]; omega
theorem utf_here {s : ByteArray} {k : Nat} (hw : ∀ j, j < k → 0 < (nextR s (offs s j)).2) (h : ¬ offs s k < s.size) : Utf s k := ⟨Nat.le_antisymm (offs_le s k) (by omega), hw⟩
theorem utf_uniq {s : ByteArray} {K N : Nat} (hw : ∀ j, j < K → 0 < (nextR s (offs s j)).2) (he : offs s K = s.size ∨ (nextR s (offs s K)).2 = 0) (hU : Utf s N) : K = N := by
  rcases Nat.lt_trichotomy K N with h | h | h
  · have h1 := hU.2 K h
    have h2 := offs_lt hU.2 h (Nat.le_refl _)
    rw [hU.1] at h2
    omega
  · exact h
  · have h1 := hw N h
    rw [hU.1, next_out (Nat.le_refl _)] at h1
    cases h1
theorem hw_succ {s : ByteArray} {k : Nat} (hw : ∀ j, j < k → 0 < (nextR s (offs s j)).2) (h : ¬ (((nextR s (offs s k)).2 : Nat) : Int) = 0) : ∀ j, j < k + 1 → 0 < (nextR s (offs s j)).2 := fun j hj => by
  by_cases e : j < k
  · exact hw j e
  · obtain rfl : j = k := by omega
    omega
theorem runesK_succ (s : ByteArray) (k : Nat) : runesK s (k + 1) = runesK s k ++ [(nextR s (offs s k)).1] := by
  unfold runesK; rw [List.range_succ, List.map_append]; rfl
structure AlG where
  k : Nat
  pa : Option Addr
  pc : Nat
  po : Option Nat
  ra : Option Addr
  rc : Nat
  ro : Option Nat
structure AlI (w wr : World) (s : ByteArray) (x : AlG) : Prop where
  hw : ∀ j, j < x.k → 0 < (nextR s (offs s j)).2
  p : OwnS wr 3 1 x.pa x.k x.pc ((List.range x.k).map fun j => iv (offs s j : Nat)) x.po
  r : OwnS wr 21 1 x.ra x.k x.rc (i32s (runesK s x.k)) x.ro
  gp : Ge w x.po
  gr : Ge w x.ro
  ap : Apart x.po x.ro

theorem refUtf_ok {w : World} (s : ByteArray) (hs : s.size ≤ 1000000) : Calls Try.prog 41 #[.string s] w (Ret fun v w' => ∃ b, v = .bool b ∧ (b = true ↔ ∃ N, Utf s N) ∧ Evo [] w w') := by
  refine calls_of_cw (N := 21) Try.func41 rfl rfl rfl ?_
  refine cw_seq ?_
  refine cw_region ?_
  refine wl_a ?_
  refine wl_nil (nrm_then ?_)
  refine cw_seq ?_
  refine cw_region ?_
  refine wl_a ?_
  refine wl_nil (nrm_then ?_)
  refine cw_seq ?_
  refine cw_block ?_
  refine cw_loop (α := Nat) (0) (fun k => [(3, .int .i64 (offs s k : Nat))]) [(0, _)] (fun k wr => Evo [] w wr ∧ (∀ j, j < k → 0 < (nextR s (offs s j)).2)) (fun k => s.size - offs s k) ⟨rfl, trivial⟩ ⟨rfl, trivial⟩ ⟨Evo.refl _ _, fun j h => by cases h⟩ ?_
  rintro k wr1 ⟨hV2, hw⟩
  show CW _ _ _ _ [(3, _), (0, _)] _
  have hE3 := (Evo.refl [] w).then hV2
  refine cw_seq ?_
  refine cw_seq ?_
  refine cw_region ?_
  refine wl_m ?_
  refine wl_m ?_
  refine wl_val rfl (ex_len_str rfl Try.underlying9 rfl) ?_
  refine wl_val rfl (ex_lss rfl rfl) ?_
  refine wl_nil (nrm_then ?_)
  refine cw_if rfl (fun hc9 => ?_) (fun hc9 => ?_)
  ·skip
   refine cw_skip (nrm_then ?_)
   refine cw_block ?_
   refine cw_seq ?_
   refine cw_region ?_
   refine wl_m ?_
   refine wl_m ?_
   refine wl_call1 (vs := [_, _]) Try.goes60 rfl (refNext_ok s (offs s k) (offs_le s k) (by omega)) rfl ?_
   rintro _ w4 ⟨rfl, hw5⟩
   have hE6 := hE3.then hw5
   have hE7 := hV2.then hw5
   refine wl_m ?_
   refine wl_val rfl (ex_extract rfl rfl) ?_
   refine wl_val rfl (ex_extract rfl rfl) ?_
   refine wl_a ?_
   refine wl_a ?_
   refine wl_nil (nrm_then ?_)
   refine cw_seq ?_
   refine cw_seq ?_
   refine cw_region ?_
   refine wl_m ?_
   refine wl_val rfl (ex_eql rfl rfl) ?_
   refine wl_nil (nrm_then ?_)
   refine cw_if rfl (fun hc17 => ?_) (fun hc17 => ?_)
   ·skip
    refine cw_seq ?_
    refine cw_region ?_
    refine wl_a ?_
    refine wl_nil (nrm_then ?_)
    refine cw_ret (ret_then (ret_block (ret_then (ret_block (ret_then (body_ret1 rfl rfl ?_))))))
    exact ⟨false, rfl, by simp only [Bool.false_eq_true, false_iff]; exact utf_bad hw (by omega) (by omega), hE6⟩
   ·skip
    refine cw_skip (nrm_then ?_)
    refine cw_region ?_
    refine wl_m ?_
    refine wl_m ?_
    have hnb := offs_le s (k + 1)
    have hof : offs s (k + 1) = offs s k + (nextR s (offs s k)).2 := rfl
    refine wl_val rfl (ex_add_i64 rfl rfl (by omega) (by omega)) ?_
    rw [show ((offs s k : Nat) : Int) + ((nextR s (offs s k)).2 : Nat) = ((offs s (k + 1) : Nat) : Int) from by omega]
    refine wl_a ?_
    refine wl_nil (nrm_block (nrm_same ?_))
    refine ⟨k + 1, ?_, ⟨rfl, trivial⟩, ⟨rfl, trivial⟩, hE7, ?_⟩
    · omega
    ·skip
     exact hw_succ hw hc17
  ·skip
   refine cw_exit (ex_then (ex_then (ex_here (nrm_then ?_))))
   refine cw_seq ?_
   refine cw_region ?_
   refine wl_a ?_
   refine wl_nil (nrm_then ?_)
   refine cw_ret (body_ret1 rfl rfl ?_)
   exact ⟨true, rfl, by simp only [true_iff]; exact ⟨k, utf_here hw (by omega)⟩, hE3⟩

theorem refAll_ok {w : World} (s : ByteArray) (hs : s.size ≤ 1000000) : Calls Try.prog 42 #[.string s] w (Ret fun v w' => Evo [] w w' ∧ ∃ K pa pn pc ra rc ro, v = .tuple #[.slice pa pn pc, .slice ra K rc] ∧ (∀ j, j < K → 0 < (nextR s (offs s j)).2) ∧ (offs s K = s.size ∨ (nextR s (offs s K)).2 = 0) ∧ OwnS w' 21 1 ra K rc (i32s (runesK s K)) ro ∧ Ge w ro) := by
  refine calls_of_cw (N := 34) Try.func42 rfl rfl rfl ?_
  refine cw_seq ?_
  refine cw_region ?_
  refine wl_a ?_
  refine wl_a ?_
  refine wl_nil (nrm_then ?_)
  refine cw_seq ?_
  refine cw_region ?_
  refine wl_a ?_
  refine wl_nil (nrm_then ?_)
  refine cw_seq ?_
  refine cw_region ?_
  refine wl_a ?_
  refine wl_nil (nrm_then ?_)
  refine cw_seq ?_
  refine cw_region ?_
  refine wl_a ?_
  refine wl_nil (nrm_then ?_)
  refine cw_seq ?_
  refine cw_block ?_
  refine cw_loop (α := AlG) (⟨0, none, 0, none, none, 0, none⟩) (fun x => [(6, .int .i64 (offs s x.k : Nat)), (4, .slice x.pa x.k x.pc), (5, .slice x.ra x.k x.rc)]) [(0, _), (2, _), (3, _)] (fun x wr => Evo [] w wr ∧ (AlI w wr s x)) (fun x => s.size - offs s x.k) ⟨rfl, rfl, rfl, trivial⟩ ⟨rfl, rfl, rfl, trivial⟩ ⟨(Evo.refl [] w), ⟨(fun j h => (by cases h)), OwnS.nil _ _ _, OwnS.nil _ _ _, Ge.nil _, Ge.nil _, Apart.nil _⟩⟩ ?_
  rintro ⟨k, pa, pc, po, ra, rc, ro⟩ wr1 ⟨hV2, ⟨hw, hp, hr, hgp, hgr, hap⟩⟩
  show CW _ _ _ _ [(6, .int .i64 (offs s k : Nat)), (4, .slice pa k pc), (5, .slice ra k rc), (0, _), (2, _), (3, _)] _
  try dsimp only at hw
  try dsimp only at hp
  try dsimp only at hr
  try dsimp only at hgp
  try dsimp only at hgr
  try dsimp only at hap
  refine cw_seq ?_
  refine cw_seq ?_
  refine cw_region ?_
  refine wl_m ?_
  refine wl_m ?_
  refine wl_val rfl (ex_len_str rfl Try.underlying9 rfl) ?_
  refine wl_val rfl (ex_lss rfl rfl) ?_
  refine wl_nil (nrm_then ?_)
  refine cw_if rfl (fun hc12 => ?_) (fun hc12 => ?_)
  ·skip
   have hkk := offs_ge hw
   refine cw_skip (nrm_then ?_)
   refine cw_block ?_
   refine cw_seq ?_
   refine cw_region ?_
   refine wl_m ?_
   refine wl_m ?_
   refine wl_call1 (vs := [_, _]) Try.goes60 rfl (refNext_ok s (offs s k) (offs_le s k) (by omega)) rfl ?_
   rintro _ w3 ⟨rfl, hw4⟩
   have hE5 := hV2.then hw4
   have hO6 := hp.evo0 hw4
   have hO7 := hr.evo0 hw4
   refine wl_m ?_
   refine wl_val rfl (ex_extract rfl rfl) ?_
   refine wl_val rfl (ex_extract rfl rfl) ?_
   refine wl_a ?_
   refine wl_a ?_
   refine wl_nil (nrm_then ?_)
   refine cw_seq ?_
   refine cw_seq ?_
   refine cw_region ?_
   refine wl_m ?_
   refine wl_val rfl (ex_eql rfl rfl) ?_
   refine wl_nil (nrm_then ?_)
   refine cw_if rfl (fun hc20 => ?_) (fun hc20 => ?_)
   ·skip
    refine cw_exit (ex_then (ex_past rfl (ex_then (ex_here (nrm_then ?_)))))
    refine cw_seq ?_
    refine cw_region ?_
    refine wl_m ?_
    refine wl_m ?_
    refine wl_a ?_
    refine wl_a ?_
    refine wl_nil (nrm_then ?_)
    refine cw_ret (body_ret2 rfl rfl rfl ?_)
    exact ⟨hE5, k, _, _, _, _, _, _, rfl, hw, .inr (by omega), hO7, hgr⟩
   ·skip
    refine cw_skip (nrm_then ?_)
    refine cw_seq ?_
    refine cw_region ?_
    refine wl_m ?_
    refine wl_m ?_
    refine wl_bslice (vs := [_]) rfl Try.slice46 rfl rfl rfl rfl fun b8 w9 hO10 hs11 hw12 => ?_
    have hA13 := Apart.new (Lt.own hO6) hs11
    have hA14 := Apart.new (Lt.own hO7) hs11
    have hG15 := Ge.new hE5 hs11
    have hE16 := hE5.then hw12
    have hO17 := hO6.evo0 hw12
    have hO18 := hO7.evo0 hw12
    refine wl_append rfl rfl rfl rfl Try.app46_46 hO17 (Src.ofOwn hO10 ⟨by first | rfl | assumption, trivial⟩) (by omega) fun pa2 pc2 w21 po2 hP2 hw24 hob25 => ?_
    have hA26 := hap.symm.app (Lt.own hO18) hob25
    have hA27 := hA13.symm.app (Lt.own hO10) hob25
    have hG28 := hgp.app hE16 hob25
    have hE29 := hE16.step hw24 hgp.mem
    have hO30 := hO18.evo hw24 hap.symm.own
    have hO31 := hO10.evo hw24 hA13.symm.own
    refine wl_a ?_
    refine wl_nil (nrm_then ?_)
    refine cw_seq ?_
    refine cw_region ?_
    refine wl_m ?_
    refine wl_m ?_
    refine wl_bslice (vs := [_]) rfl Try.slice58 rfl rfl rfl rfl fun b32 w33 hO34 hs35 hw36 => ?_
    have hA37 := Apart.new (Lt.own hO30) hs35
    have hA38 := Apart.new (Lt.own hP2) hs35
    have hG39 := Ge.new hE29 hs35
    have hE40 := hE29.then hw36
    have hO41 := hO30.evo0 hw36
    have hO42 := hP2.evo0 hw36
    refine wl_append rfl rfl rfl rfl Try.app58_58 hO41 (Src.ofOwn hO34 ⟨by first | rfl | assumption, trivial⟩) (by omega) fun ra2 rc2 w45 ro2 hR2 hw48 hob49 => ?_
    have hA50 := hA26.symm.app (Lt.own hO42) hob49
    have hA51 := hA37.symm.app (Lt.own hO34) hob49
    have hG52 := hgr.app hE40 hob49
    have hE53 := hE40.step hw48 hgr.mem
    have hO54 := hO42.evo hw48 hA26.symm.own
    have hO55 := hO34.evo hw48 hA37.symm.own
    refine wl_a ?_
    refine wl_nil (nrm_then ?_)
    refine cw_region ?_
    refine wl_m ?_
    refine wl_m ?_
    have hnb := offs_le s (k + 1)
    have hof : offs s (k + 1) = offs s k + (nextR s (offs s k)).2 := rfl
    refine wl_val rfl (ex_add_i64 rfl rfl (by omega) (by omega)) ?_
    rw [show ((offs s k : Nat) : Int) + ((nextR s (offs s k)).2 : Nat) = ((offs s (k + 1) : Nat) : Int) from by omega]
    refine wl_a ?_
    refine wl_nil (nrm_block (nrm_same ?_))
    refine ⟨⟨k + 1, pa2, pc2, po2, ra2, rc2, ro2⟩, ?_, ⟨rfl, rfl, rfl, trivial⟩, ⟨rfl, rfl, rfl, trivial⟩, hE53, ?_⟩
    · (try dsimp only); omega
    ·skip
     try dsimp only
     refine ⟨hw_succ hw hc20, ?_, ?_, hG28, hG52, hA50⟩
     · rw [List.range_succ, List.map_append]; exact hO54
     · rw [runesK_succ, show i32s (runesK s k ++ [(nextR s (offs s k)).1]) = i32s (runesK s k) ++ [Value.int .i32 (nextR s (offs s k)).1] from List.map_append]; exact hR2
  ·skip
   refine cw_exit (ex_then (ex_then (ex_here (nrm_then ?_))))
   refine cw_seq ?_
   refine cw_region ?_
   refine wl_m ?_
   refine wl_m ?_
   refine wl_a ?_
   refine wl_a ?_
   refine wl_nil (nrm_then ?_)
   refine cw_ret (body_ret2 rfl rfl rfl ?_)
   exact ⟨hV2, k, _, _, _, _, _, _, rfl, hw, .inl (Nat.le_antisymm (offs_le s k) (by omega)), hr, hgr⟩

theorem refRunes_ok {w : World} (s : ByteArray) (hs : s.size ≤ 1000000) : Calls Try.prog 23 #[.string s] w (Ret fun v w' => Evo [] w w' ∧ ∃ a n c e, v = .tuple #[.slice a n c, iv e] ∧ ((e = 4 ∧ ¬ ∃ N, Utf s N) ∨ (e = 0 ∧ Utf s n ∧ ∃ ro, OwnS w' 21 1 a n c (i32s (runesK s n)) ro ∧ Ge w ro))) := by
  refine calls_of_cw (N := 15) Try.func23 rfl rfl rfl ?_
  refine cw_seq ?_
  refine cw_region ?_
  refine wl_a ?_
  refine wl_a ?_
  refine wl_nil (nrm_then ?_)
  refine cw_seq ?_
  refine cw_seq ?_
  refine cw_region ?_
  refine wl_m ?_
  refine wl_call1 (vs := [_]) Try.goes41 rfl (refUtf_ok s hs) rfl ?_
  rintro _ w1 ⟨b, rfl, hb, hw2⟩
  have hE3 := (Evo.refl [] w).then hw2
  refine wl_val rfl (ex_notb rfl) ?_
  refine wl_nil (nrm_then ?_)
  refine cw_ifb rfl (fun hc8 => ?_) (fun hc8 => ?_)
  ·skip
   refine cw_seq ?_
   refine cw_region ?_
   refine wl_a ?_
   refine wl_a ?_
   refine wl_nil (nrm_then ?_)
   refine cw_ret (ret_then (body_ret2 rfl rfl rfl ?_))
   exact ⟨hE3, none, 0, 0, 4, rfl, .inl ⟨rfl, fun h => by rw [hb.2 h] at hc8; cases hc8⟩⟩
  ·skip
   refine cw_skip (nrm_then ?_)
   refine cw_seq ?_
   refine cw_region ?_
   refine wl_m ?_
   refine wl_call1 (vs := [_]) Try.goes42 rfl (refAll_ok s hs) rfl ?_
   rintro _ w4 ⟨hw5, K, pa, pn, pc, ra, rc, ro, rfl, hK, hKe, hO, hgO⟩
   have hev := hE3
   have hE6 := hE3.then hw5
   refine wl_m ?_
   refine wl_val rfl (ex_extract rfl rfl) ?_
   refine wl_val rfl (ex_extract rfl rfl) ?_
   refine wl_a ?_
   refine wl_a ?_
   refine wl_nil (nrm_then ?_)
   refine cw_seq ?_
   refine cw_region ?_
   refine wl_m ?_
   refine wl_a ?_
   refine wl_a ?_
   refine wl_nil (nrm_then ?_)
   refine cw_ret (body_ret2 rfl rfl rfl ?_)
   obtain ⟨N, hU⟩ := hb.1 (by simpa using hc8)
   have hKN := utf_uniq hK hKe hU
   subst hKN
   exact ⟨hE6, _, _, _, 0, rfl, .inr ⟨rfl, hU, ro, hO, Ge.fresh hev hgO⟩⟩

end Go.Proofs.Ytgboffefbpligaa
